/- Conditions in memory: trees whose rows are the call's own, each in a block of its own. -/
/- What a parser says of tokens: a value and where it goes on, or what is wrong, and where. -/
/- The things in braces: one by one. -/
/- One span in braces. -/
/- Things in braces: the loop over them, for whatever things. -/
import Derived.Test.YtjeekocidaogoaaGreatDoorK5WApart
import Derived.Test.YtjeekocidaogoaaGreatDoorK5Src
import Derived.Deep.AppendLies
set_option linter.unusedVariables false
set_option linter.unusedSimpArgs false
set_option maxRecDepth 100000
set_option maxHeartbeats 8000000
namespace Go.Proofs.YtjeekocidaogoaaGreatDoor.H
open Go.RowKit Go.Proofs.YtjeekocidaogoaaGreatDoor.Hand Go.Proofs.YtjeekocidaogoaaGreatDoorW.PrintWords Go.Proofs.YtjeekocidaogoaaGreatDoorW.PrintLast Go.Proofs.YtjeekocidaogoaaGreatDoorW.PrintMore
section
def zpl (l : List S47) : List Value := l.flatMap fun p => [.int .i64 p.f0, .int .i64 p.f1]
def zpe (l : List S68) : List Value := l.flatMap fun p => [.int .i64 p.f0, .int .i64 p.f1]
def zho (l : List ByteArray) : List Value := l.map .string
theorem zfp (l : List ByteArray) : (zho l).length = l.length := List.length_map ..
def Blk (v : Value) : List Nat := v.ownBlock.toList
theorem znr {v : Value} {g : Nat} : g ∈ Blk v ↔ v.ownBlock = some g := by simp [Blk]
mutual
inductive Tree (W : World) (b : Nat) : S60 → List Value → List Nat → Prop
 | mk {x : S60} {vp vs vn vk : Value} {cells : List Value} {L : List Nat}
  (hp : Row W b 47 2 vp x.f3.length (zpl x.f3)) (hs : Row W b 68 2 vs x.f4.length (zpe x.f4)) (hn : Row W b 9 1 vn x.f5.length (zho x.f5)) (hk : Row W b 60 8 vk x.f6.length cells)
  (hf : Forest W b x.f6 cells L) : Tree W b x [.int .i64 x.f0, .string x.f1, .string x.f2, vp, vs, vn, vk, .int .i64 x.f7] (Blk vp ++ Blk vs ++ Blk vn ++ Blk vk ++ L)
inductive Forest (W : World) (b : Nat) : List S60 → List Value → List Nat → Prop
 | nil : Forest W b [] [] []
 | cons {c : S60} {r : List S60} {cs rs : List Value} {L M : List Nat} (ht : Tree W b c cs L) (hr : Forest W b r rs M) : Forest W b (c :: r) (cs ++ rs) (L ++ M)
end
section
variable {W w1 : World} {b : Nat}
theorem Tree.lt {c : S60} {cs : List Value} {L : List Nat} (h : Tree W b c cs L) : ∀ g ∈ L, b ≤ g ∧ g < W.heap.size := by
 refine Tree.rec (motive_1 := fun _ _ L _ => ∀ g ∈ L, b ≤ g ∧ g < W.heap.size) (motive_2 := fun _ _ L _ => ∀ g ∈ L, b ≤ g ∧ g < W.heap.size) ?_ ?_ ?_ h
 ·intro _ _ _ _ _ _ _ hp hs hn hk hf ih g hg
  simp only [List.mem_append, znr] at hg
  rcases hg with (((hg | hg) | hg) | hg) | hg
  ·exact ⟨(hp.blk hg).1, (hp.blk hg).2.1⟩
  ·exact ⟨(hs.blk hg).1, (hs.blk hg).2.1⟩
  ·exact ⟨(hn.blk hg).1, (hn.blk hg).2.1⟩
  ·exact ⟨(hk.blk hg).1, (hk.blk hg).2.1⟩
  ·exact ih g hg
 ·intro g hg; cases hg
 ·intro _ _ _ _ _ _ _ _ ih1 ih2 g hg
  rcases List.mem_append.1 hg with hg | hg
  ·exact ih1 g hg
  ·exact ih2 g hg
theorem Tree.frame {c : S60} {cs : List Value} {L : List Nat} (h : Tree W b c cs L) : (∀ g ∈ L, w1.heap[g]? = W.heap[g]?) → Tree w1 b c cs L := by
 refine Tree.rec (motive_1 := fun c cs L _ => (∀ g ∈ L, w1.heap[g]? = W.heap[g]?) → Tree w1 b c cs L) (motive_2 := fun l cs L _ => (∀ g ∈ L, w1.heap[g]? = W.heap[g]?) → Forest w1 b l cs L) ?_ ?_ ?_ h
 ·intro _ _ _ _ _ _ _ hp hs hn hk hf ih hh
  refine .mk (hp.frame fun g hg => hh g ?_) (hs.frame fun g hg => hh g ?_) (hn.frame fun g hg => hh g ?_) (hk.frame fun g hg => hh g ?_) (ih fun g hg => hh g ?_)
  all_goals simp only [List.mem_append, znr]
  ·exact .inl (.inl (.inl (.inl hg)))
  ·exact .inl (.inl (.inl (.inr hg)))
  ·exact .inl (.inl (.inr hg))
  ·exact .inl (.inr hg)
  ·exact .inr hg
 ·intro _; exact .nil
 ·intro _ _ _ _ _ _ _ _ ih1 ih2 hh
  exact .cons (ih1 fun g hg => hh g (List.mem_append.2 (.inl hg))) (ih2 fun g hg => hh g (List.mem_append.2 (.inr hg)))
theorem Forest.lt {l : List S60} {cs : List Value} {L : List Nat} (h : Forest W b l cs L) : ∀ g ∈ L, b ≤ g ∧ g < W.heap.size := by
 induction l generalizing cs L with
 | nil => cases h; intro g hg; cases hg
 | cons c l ih =>
  cases h with
  | cons ht hr =>
   intro g hg
   rcases List.mem_append.1 hg with hg | hg
   ·exact ht.lt g hg
   ·exact ih hr g hg
theorem Forest.frame {l : List S60} {cs : List Value} {L : List Nat} (h : Forest W b l cs L) (hh : ∀ g ∈ L, w1.heap[g]? = W.heap[g]?) : Forest w1 b l cs L := by
 induction l generalizing cs L with
 | nil => cases h; exact .nil
 | cons c l ih =>
  cases h with
  | cons ht hr => exact .cons (ht.frame fun g hg => hh g (List.mem_append.2 (.inl hg))) (ih hr fun g hg => hh g (List.mem_append.2 (.inr hg)))
theorem Tree.open_ {c : S60} {cs : List Value} {L : List Nat} (h : Tree W b c cs L) : ∃ vp vs vn vk cells M, cs = [.int .i64 c.f0, .string c.f1, .string c.f2, vp, vs, vn, vk, .int .i64 c.f7] ∧ L = Blk vp ++ Blk vs ++ Blk vn ++ Blk vk ++ M ∧
  Row W b 47 2 vp c.f3.length (zpl c.f3) ∧ Row W b 68 2 vs c.f4.length (zpe c.f4) ∧ Row W b 9 1 vn c.f5.length (zho c.f5) ∧ Row W b 60 8 vk c.f6.length cells ∧ Forest W b c.f6 cells M := by
 cases h with
 | mk hp hs hn hk hf => exact ⟨_, _, _, _, _, _, rfl, rfl, hp, hs, hn, hk, hf⟩
theorem Tree.length {c : S60} {cs : List Value} {L : List Nat} (h : Tree W b c cs L) : cs.length = 8 := by cases h; rfl
theorem Forest.length {l : List S60} {cs : List Value} {L : List Nat} (h : Forest W b l cs L) : cs.length = l.length * 8 := by
 induction l generalizing cs L with
 | nil => cases h; rfl
 | cons c l ih =>
  cases h with
  | cons ht hr => rw [List.length_append, ht.length, ih hr, List.length_cons]; omega
theorem Forest.snoc {l : List S60} {cs ds : List Value} {L M : List Nat} {c : S60} (h : Forest W b l cs L) (k : Tree W b c ds M) : Forest W b (l ++ [c]) (cs ++ ds) (L ++ M) := by
 induction l generalizing cs L with
 | nil =>
  cases h
  have := Forest.cons k .nil
  simpa using this
 | cons a l ih =>
  cases h with
  | cons ht hr =>
   have := Forest.cons ht (ih hr)
   simpa [List.append_assoc] using this
theorem Tree.lower {b' : Nat} (hb : b' ≤ b) {c : S60} {cs : List Value} {L : List Nat} (h : Tree W b c cs L) : Tree W b' c cs L := by
 refine Tree.rec (motive_1 := fun c cs L _ => Tree W b' c cs L) (motive_2 := fun l cs L _ => Forest W b' l cs L) ?_ ?_ ?_ h
 ·intro _ _ _ _ _ _ _ hp hs hn hk hf ih
  exact .mk (hp.lower hb) (hs.lower hb) (hn.lower hb) (hk.lower hb) ih
 ·exact .nil
 ·intro _ _ _ _ _ _ _ _ ih1 ih2
  exact .cons ih1 ih2
end
theorem Row.C {α : Type} {d : Kd α} {W : World} {b ty n c : Nat} {A : Option Addr} {cells : List Value} {xs : List α} (h : Row W b ty d.sz (.slice A n c) n cells) (hl : xs.length = n)
  (hx : ∀ j p, xs[j]? = some p → ∃ cs, cs.length = d.sz ∧ d.K W p cs ∧ ∀ r, r < d.sz → cells[j * d.sz + r]? = cs[r]?) : Kd.C d W A n xs := by
 obtain ⟨A', c', hv, hnc, hg⟩ := h.form
 injection hv with h1 h2 h3
 subst h1
 refine ⟨hl, ?_, fun h0 => ?_⟩
 ·by_cases h0 : 0 < n
  ·obtain ⟨g, cur, _, _, _, _, hm, _⟩ := hg h0
   simp only [maxLen] at hm
   omega
  ·omega
 ·obtain ⟨g, cur, rfl, ho, _⟩ := hg h0
  refine ⟨_, rfl, fun j p hp => ?_⟩
  obtain ⟨cs, hcs, hK, hr⟩ := hx j p hp
  refine ⟨cs, hcs, hK, fun r u hu => ?_⟩
  have hr' : r < d.sz := by rw [← hcs]; exact (List.getElem?_eq_some_iff.1 hu).1
  have hadd : (⟨g, 0, none⟩ : Addr).add (j * d.sz + r) = ⟨g, j * d.sz + r, none⟩ := by unfold Addr.add; split <;> simp_all
  rw [hadd]
  exact h.cell ho _ u ((hr r hr').trans hu)
theorem pairC_at (l : List S47) (j : Nat) (p : S47) (h : l[j]? = some p) (r : Nat) (hr : r < 2) : (zpl l)[j * 2 + r]? = [Value.int .i64 p.f0, Value.int .i64 p.f1][r]? := by
 induction l generalizing j with
 | nil => simp at h
 | cons a l ih =>
  have e : zpl (a :: l) = [Value.int .i64 a.f0, Value.int .i64 a.f1] ++ zpl l := rfl
  rw [e]
  cases j with
  | zero =>
   have : a = p := by simpa using h
   subst this
   rw [Nat.zero_mul, Nat.zero_add, List.getElem?_append_left (by simpa using hr)]
  | succ j =>
   rw [List.getElem?_append_right (by simp; omega), ← ih j (by simpa using h)]
   congr 1
   simp; omega
theorem spanC_at (l : List S68) (j : Nat) (p : S68) (h : l[j]? = some p) (r : Nat) (hr : r < 2) : (zpe l)[j * 2 + r]? = [Value.int .i64 p.f0, Value.int .i64 p.f1][r]? := by
 induction l generalizing j with
 | nil => simp at h
 | cons a l ih =>
  have e : zpe (a :: l) = [Value.int .i64 a.f0, Value.int .i64 a.f1] ++ zpe l := rfl
  rw [e]
  cases j with
  | zero =>
   have : a = p := by simpa using h
   subst this
   rw [Nat.zero_mul, Nat.zero_add, List.getElem?_append_left (by simpa using hr)]
  | succ j =>
   rw [List.getElem?_append_right (by simp; omega), ← ih j (by simpa using h)]
   congr 1
   simp; omega
theorem Tree.K {W : World} {b : Nat} {x : S60} {cs : List Value} {L : List Nat} (h : Tree W b x cs L) : k60.K W x cs := by
 refine Tree.rec (motive_1 := fun x cs _ _ => k60.K W x cs) (motive_2 := fun l cells _ _ => ∀ j p, l[j]? = some p → ∃ cs, cs.length = 8 ∧ k60.K W p cs ∧ ∀ r, r < 8 → cells[j * 8 + r]? = cs[r]?) ?_ ?_ ?_ h
 ·intro x vp vs vn vk cells L hp hs hn hk hf ih
  obtain ⟨Ap, cp, rfl, lp, _⟩ := hp.form
  obtain ⟨As, cs, rfl, ls, _⟩ := hs.form
  obtain ⟨An, cn, rfl, ln, _⟩ := hn.form
  obtain ⟨Ak, ck, rfl, lk, _⟩ := hk.form
  refine zhg W x lp (Row.C (d := k47) hp rfl fun j p hj => ?_) ls (Row.C (d := k68) hs rfl fun j p hj => ?_) ln (Row.C (d := Kd.string) hn rfl fun j p hj => ?_) lk (Row.C (d := k60) hk rfl ih)
  ·exact ⟨_, rfl, k47_mk W p, fun r hr => pairC_at _ j p hj r hr⟩
  ·exact ⟨_, rfl, k68_mk W p, fun r hr => spanC_at _ j p hj r hr⟩
  ·refine ⟨[.string p], rfl, rfl, fun r hr => ?_⟩
   have hr1 : r = 0 := by have : r < 1 := hr; omega
   subst hr1
   show (zho x.f5)[j * 1 + 0]? = _
   rw [Nat.mul_one, Nat.add_zero, zho, List.getElem?_map, hj]
   rfl
 ·intro j p hj; simp at hj
 ·intro c r cs rs L M ht hr ih1 ih2 j p hj
  cases j with
  | zero =>
   have : c = p := by simpa using hj
   subst this
   refine ⟨cs, ht.length, ih1, fun q hq => ?_⟩
   rw [Nat.zero_mul, Nat.zero_add, List.getElem?_append_left (by rw [ht.length]; exact hq)]
  | succ j =>
   obtain ⟨es, h1, h2, h3⟩ := ih2 j p (by simpa using hj)
   refine ⟨es, h1, h2, fun q hq => ?_⟩
   rw [List.getElem?_append_right (by rw [ht.length]; omega), ht.length, ← h3 q hq]
   congr 1
   omega
end
section
inductive PR (α : Type) where
 | ok (a : α) (i : Nat)
 | bad (e p : Int)
def PR.bind {α β : Type} (r : PR α) (f : α → Nat → PR β) : PR β := match r with
 | .ok a i => f a i
 | .bad e p => .bad e p
abbrev CD := S60 × Nat
def sIn : ByteArray := ⟨#[105, 110]⟩
def zll : ByteArray := ⟨#[123]⟩
def zkn : ByteArray := ⟨#[125]⟩
def zha : ByteArray := ⟨#[44]⟩
def zfc : ByteArray := ⟨#[45]⟩
def zdy : ByteArray := ⟨#[126]⟩
def zey : ByteArray := ⟨#[40]⟩
def zic : ByteArray := ⟨#[41]⟩
def zff : ByteArray := ⟨#[59]⟩
def sEq : ByteArray := ⟨#[61]⟩
def sOr : ByteArray := ⟨#[111, 114]⟩
def sAnd : ByteArray := ⟨#[97, 110, 100]⟩
def sNot : ByteArray := ⟨#[110, 111, 116]⟩
def zqh : ByteArray := ⟨#[116, 114, 117, 101]⟩
def znz : ByteArray := ⟨#[102, 97, 108, 115, 101]⟩
def zqk : ByteArray := ⟨#[97, 100, 100, 114]⟩
def zqi : ByteArray := ⟨#[112, 111, 114, 116]⟩
def zlm : ByteArray := ⟨#[109, 101, 116, 104, 111, 100]⟩
def zqj : ByteArray := ⟨#[112, 97, 116, 104]⟩
def zln : ByteArray := ⟨#[104, 101, 97, 100, 101, 114]⟩
def sHas : ByteArray := ⟨#[104, 97, 115]⟩
def sLet : ByteArray := ⟨#[108, 101, 116]⟩
def sAllow : ByteArray := ⟨#[97, 108, 108, 111, 119]⟩
def sDeny : ByteArray := ⟨#[100, 101, 110, 121]⟩
def znl : ByteArray := ⟨#[119, 104, 101, 110]⟩
def tok0 : Tok := ⟨8, ⟨#[]⟩, 0, 0, 0, 0⟩
section
variable (toks : List Tok)
def tk (i : Nat) : Tok := toks.getD i tok0
theorem zbt {i : Nat} (h : i < toks.length) : toks[i]? = some (tk toks i) := by rw [tk, List.getD_eq_getElem?_getD, List.getElem?_eq_getElem h]; rfl
def zby (s : ByteArray) (i : Nat) : PR Unit := if isT (tk toks i) s = true then .ok () (i + 1) else .bad 90 (tk toks i).place
def ofP (k : Int) (i : Nat) : PR Tok := if (tk toks i).kind = k then .ok (tk toks i) (i + 1) else .bad 90 (tk toks i).place
def zfz (i : Nat) : PR S47 := (ofP toks 5 i).bind fun t j => .ok ⟨t.pa, t.pb⟩ j
def zel (i : Nat) : PR S68 := (ofP toks 4 i).bind fun t j => if isT (tk toks j) zfc = true then (ofP toks 4 (j + 1)).bind fun u k => .ok ⟨t.num, u.num⟩ k else .ok ⟨t.num, t.num⟩ j
def zdh (i : Nat) : PR ByteArray := (ofP toks 3 i).bind fun t j => .ok t.text j
def zfv {β : Type} (elem : Nat → PR β) (want : Int) : Nat → Nat → List β → Option (PR (List β))
 | 0, _, _ => none
 | k + 1, i, acc =>
  if acc.length = 32 ∧ (tk toks i).kind = want then some (.bad 92 (tk toks i).place)
  else match elem i with
   | .bad e p => some (.bad e p)
   | .ok b j => if isT (tk toks j) zha = true then zfv elem want k (j + 1) (acc ++ [b]) else some ((zby toks zkn j).bind fun _ m => .ok (acc ++ [b]) m)
def zgl {β : Type} (elem : Nat → PR β) (want : Int) (k i : Nat) : Option (PR (List β)) :=
 match zby toks sIn i with
 | .bad e p => some (.bad e p)
 | .ok _ j => match zby toks zll j with
  | .bad e p => some (.bad e p)
  | .ok _ m => zfv toks elem want k m []
def zeb (t : Tok) : Bool :=
 if t.kind = 2 then true else if t.kind = 7 then t.text.toList == zey.toList
 else if t.kind = 1 then [sNot, zqh, znz, zqk, zqi, zlm, zqj, zln, sHas].any fun w => t.text.toList == w.toList else false
def zgv (t : Tok) (k i : Nat) : Option (PR CD) :=
 if t.text.toList = zqh.toList then some (.ok (⟨1, ⟨#[]⟩, ⟨#[]⟩, [], [], [], [], t.place⟩, 1) i)
 else if t.text.toList = znz.toList then some (.ok (⟨2, ⟨#[]⟩, ⟨#[]⟩, [], [], [], [], t.place⟩, 1) i)
 else if t.text.toList = zqk.toList then (zgl toks (zfz toks) 5 k i).map fun r => r.bind fun l j => .ok (⟨7, ⟨#[]⟩, ⟨#[]⟩, l, [], [], [], t.place⟩, 1) j
 else if t.text.toList = zqi.toList then (zgl toks (zel toks) 4 k i).map fun r => r.bind fun l j => .ok (⟨8, ⟨#[]⟩, ⟨#[]⟩, [], l, [], [], t.place⟩, 1) j
 else if t.text.toList = zlm.toList then (zgl toks (zdh toks) 3 k i).map fun r => r.bind fun l j => .ok (⟨9, ⟨#[]⟩, ⟨#[]⟩, [], [], l, [], t.place⟩, 1) j
 else if t.text.toList = zqj.toList then some ((zby toks zdy i).bind fun _ j => (ofP toks 6 j).bind fun u m => .ok (⟨10, ⟨#[]⟩, u.text, [], [], [], [], t.place⟩, 1) m)
 else if t.text.toList = zln.toList then some ((ofP toks 6 i).bind fun n j => (zby toks zdy j).bind fun _ m => (ofP toks 6 m).bind fun u q => .ok (⟨11, n.text, u.text, [], [], [], [], t.place⟩, 1) q)
 else if t.text.toList = sHas.toList then some ((ofP toks 6 i).bind fun n j => .ok (⟨12, n.text, ⟨#[]⟩, [], [], [], [], t.place⟩, 1) j)
 else some (.bad 90 t.place)
def isOp (t : Tok) : Bool := [zqh, znz, zqk, zqi, zlm, zqj, zln, sHas].any fun w => t.text.toList == w.toList
def zfm (x : S60) (d i : Nat) : PR CD := if d + 1 > 16 then .bad 91 x.f7 else .ok (x, d + 1) i
def rowL (part : Nat → Option (PR CD)) (kind : Int) (word : ByteArray) : Nat → Nat → List S60 → Nat → Option (PR CD)
 | 0, _, _, _ => none
 | k + 1, i, l, d =>
  if isT (tk toks i) word = true then
   if l.length = 32 then some (.bad (if zeb (tk toks (i + 1)) = true then 92 else 90) (tk toks (i + 1)).place)
   else match part (i + 1) with
    | none => none
    | some (.bad e p) => some (.bad e p)
    | some (.ok c j) => rowL part kind word k j (l ++ [c.1]) (max d c.2)
  else match l with
   | [c] => some (.ok (c, d) i)
   | _ => some (zfm ⟨kind, ⟨#[]⟩, ⟨#[]⟩, [], [], [], l, (l.head?.map (·.f7)).getD 0⟩ d i)
def rowP (part : Nat → Option (PR CD)) (kind : Int) (word : ByteArray) (k i : Nat) : Option (PR CD) :=
 match part i with
 | none => none
 | some (.bad e p) => some (.bad e p)
 | some (.ok c j) => rowL toks part kind word k j [c.1] c.2
def zbl : Nat → Nat → Nat → Option (PR CD)
 | 0, _, _ => none
 | k + 1, 0, i => rowP toks (zbl k 1) 6 sOr k i
 | k + 1, 1, i => rowP toks (zbl k 2) 5 sAnd k i
 | k + 1, 2, i =>
  if isT (tk toks i) sNot = true then
   match zbl k 2 (i + 1) with
   | none => none
   | some (.bad e p) => some (.bad e p)
   | some (.ok c j) => some (zfm ⟨4, ⟨#[]⟩, ⟨#[]⟩, [], [], [], [c.1], (tk toks i).place⟩ c.2 j)
  else zbl k 3 i
 | k + 1, _ + 3, i =>
  if isT (tk toks i) zey = true then
   match zbl k 0 (i + 1) with
   | none => none
   | some (.bad e p) => some (.bad e p)
   | some (.ok c j) => some ((zby toks zic j).bind fun _ m => .ok c m)
  else if (tk toks i).kind = 2 then some (.ok (⟨3, (tk toks i).text, ⟨#[]⟩, [], [], [], [], (tk toks i).place⟩, 1) (i + 1))
  else if (tk toks i).kind = 1 ∧ isOp (tk toks i) = true then zgv toks (tk toks i) k (i + 1)
  else some (.bad 90 (tk toks i).place)
end
end
section
theorem dead {P : Program} {w : World} {G : Prop} (h : G) (_h2 : wpAny P .any #[] (fun _ _ _ => True) 0 #[] ⟨#[], []⟩ w) : G := h
def OneP {β : Type} (enc : β → List Value) (W : World) (b g T c q f ty sz : Nat) (toks : List Tok) (cells : Array Value) (n : Nat) (xs : List Value) (v : Value) (r : PR β) (e : Ending) (W' : World) : Prop :=
 (match r with
 | .ok y j => e = .returned (.tuple #[]) ∧ PSt W' g T c toks j ∧ ∃ v', W'.heap[q]? = some (.cells (cells.setIfInBounds f v') 60 (0, 0)) ∧ Row W' b ty sz v' (n + 1) (xs ++ enc y)
 | .bad k p => e = .panicked [zfx k p]) ∧ Fr W W' (fun k => k = g ∨ k = q ∨ some k = v.ownBlock)
theorem znp {W w' w1 : World} {b g T c q f ty sz i j n : Nat} {toks : List Tok} {cells : Array Value} {xs ys : List Value} {v v1 : Value} (hs : PSt W g T c toks i) (hS : PSt w' g T c toks j) (hF : Fr W w' (· = g))
  (hq : W.heap[q]? = some (.cells cells 60 (0, 0))) (hrow : Row W b ty sz v n xs) (h1 : ty ≠ 60) (h2 : ty ≠ 49) (h3 : ty ≠ 73)
  (hg1 : w'.grownBy w1 v.ownBlock) (hr1 : Row w1 b ty sz v1 (n + 1) (xs ++ ys)) (hv1 : v1.cells.size = 1) :
  PSt (w1.setCell ⟨q, f, none⟩ v1) g T c toks j ∧ (∃ v', (w1.setCell ⟨q, f, none⟩ v1).heap[q]? = some (.cells (cells.setIfInBounds f v') 60 (0, 0)) ∧ Row (w1.setCell ⟨q, f, none⟩ v1) b ty sz v' (n + 1) (xs ++ ys)) ∧
  Fr W (w1.setCell ⟨q, f, none⟩ v1) (fun k => k = g ∨ k = q ∨ some k = v.ownBlock) := by
 have hnq : ¬ q = g := fun e => by
  subst e
  have h1 := hs.src
  rw [hq] at h1
  injection h1 with h1
  injection h1 with _ h2
  exact absurd h2 (by decide)
 obtain ⟨ct, ht1, _⟩ := hs.tok
 have hqT : T ≠ q := fun e => by
  subst e
  rw [hq] at ht1
  injection ht1 with h1
  injection h1 with _ h2
  exact absurd h2 (by decide)
 have hvg : v.ownBlock ≠ some g := hrow.ne hs.src h3
 have hvT : v.ownBlock ≠ some T := hrow.ne ht1 h2
 have hvq : v.ownBlock ≠ some q := hrow.ne hq h1
 have hql := zat hq
 have hq1 : w1.heap[q]? = some (.cells cells 60 (0, 0)) := (hg1.block q (Nat.lt_of_lt_of_le hql hF.size) (fun e => hvq e.symm)).trans (hF.blk hq hnq)
 have hS1 : PSt w1 g T c toks j := hS.blk (hg1.block g hS.lts.1 (fun e => hvg e.symm)) (hg1.block T hS.lts.2.1 (fun e => hvT e.symm))
 refine ⟨hS1.far (fun e => hnq e.symm) hqT _, ⟨v1, zak hq1 f _ rfl, hr1.setCell (hr1.ne hq1 h1) _⟩, ?_⟩
 refine Fr.setCell ?_ (.inl (.inr (.inl rfl))) _
 exact (hF.mono (S' := fun k => k = g ∨ k = q ∨ some k = v.ownBlock) (fun k h => .inl (.inl h))).then_ (Fr.of_grown (S := fun k => some k = v.ownBlock) hg1 (fun k h => h.symm)) (fun k h => .inl (.inr (.inr h)))
theorem addr_one (W : World) (b g T c r q : Nat) (toks : List Tok) (i : Nat) (cells : Array Value) (n : Nat) (xs : List Value) (v : Value) (hi : i < toks.length) (hs : PSt W g T c toks i) (hb0 : b ≤ W.heap.size) (hn : n ≤ 1000)
  (hr : W.heap[r]? = some (.cells #[.pointer (some ⟨g, 0, none⟩)] 71 (0, 0))) (hq : W.heap[q]? = some (.cells cells 60 (0, 0))) (hv : cells[3]? = some v) (hrow : Row W b 47 2 v n xs) :
  Calls Tryz.prog 199 #[.pointer (some ⟨q, 0, none⟩), .pointer (some ⟨r, 0, none⟩)] W (OneP (fun p : S47 => [Value.int .i64 p.f0, Value.int .i64 p.f1]) W b g T c q 3 47 2 toks cells n xs v (zfz toks i)) := by
 have c3 : W.cell? ⟨q, 3, none⟩ = some v := (zae hq 3).trans hv
 have c0 : W.cell? ⟨r, 0, none⟩ = some (.pointer (some ⟨g, 0, none⟩)) := zae hr 0
 have HO := Zq.mk (fun W' (h' : PSt W' g T c toks i) => zfi W' g T c toks i _ (zbt toks hi) 5 h')
 have hnq : ¬ q = g := fun e => by
  subst e
  have h1 := hs.src
  rw [hq] at h1
  injection h1 with h1
  injection h1 with _ h2
  exact absurd h2 (by decide)
 have hnr : ¬ r = g := fun e => by
  subst e
  have h1 := hs.src
  rw [hr] at h1
  injection h1 with h1
  injection h1 with _ h2
  exact absurd h2 (by decide)
 have hvg : ∀ g', v.ownBlock = some g' → ¬ g' = g := fun g' hg' e => hrow.ne hs.src (by decide) (by rw [hg', e])
 have hvq : v.ownBlock ≠ some q := hrow.ne hq (by decide)
 have hf3 := tok_f3
 by_cases hk : (tk toks i).kind = 5
 ·have hel : zfz toks i = .ok ⟨(tk toks i).pa, (tk toks i).pb⟩ (i + 1) := by unfold zfz ofP; rw [if_pos hk]; rfl
  rw [hel]
  simp only [if_pos hk] at HO
  go_enter Tryz.func199, Tryz.ntmps199
  go_wp2
  go_region_law (first
   | (go_simp; go_at_call 52; refine (HO.out _ (by first | exact hs | exact hs.drew)).mono ?_; rintro e' w' ⟨⟨rfl, hS⟩, hF0⟩; have hF := hF0.undrew; clear hF0; have k3 : w'.cell? ⟨q, 3, none⟩ = some v := (zae (hF.blk (g := q) hq hnq) 3).trans hv; have k3a : ∀ o, (w'.alloc o).cell? ⟨q, 3, none⟩ = some v := fun o => (zae (zad (hF.blk (g := q) hq hnq) o) 3).trans hv; have k0 : w'.cell? ⟨r, 0, none⟩ = some (.pointer (some ⟨g, 0, none⟩)) := zae (hF.blk (g := r) hr hnr) 0)
   | (refine zeq b (by rfl) (.tmp 3) (.tmp 7) 56 47 (.agg #[.int .i64 0, .int .i64 0]) 2 16 rfl rfl rfl rfl (by decide) v n xs [.int .i64 (tk toks i).pa, .int .i64 (tk toks i).pb] rfl rfl rfl ?aU (hrow.fr hF hvg) (Nat.le_trans hb0 hF.size) ?aM ?aL ?_; (case aU => intro u hu; simp at hu; rcases hu with rfl | rfl <;> rfl); (case aM => simp only [maxLen]; omega); (case aL => omega); intro v1 w1 hr1 hg1 hat1 hne1; have hq1 : w1.heap[q]? = some (.cells cells 60 (0, 0)) := (hg1.block q (Nat.lt_of_lt_of_le (zat hq) hF.size) (fun e => hvq e.symm)).trans (hF.blk (g := q) hq hnq); have q3 := (zae hq1 3).trans hv; have q3f := zaf hq1 3; obtain ⟨A1, cap1, rfl, hcap1, -⟩ := hr1.form))
  all_goals (first | go_end0 | (refine bodyPost_ret (results_none rfl _ _ _) rfl ?_))
  all_goals
   obtain ⟨e1, e2, e3⟩ := znp (f := 3) hs hS hF hq hrow (by decide) (by decide) (by decide) hg1 hr1 rfl
   exact ⟨⟨rfl, e1, e2⟩, e3⟩
 ·have hel : zfz toks i = .bad 90 (tk toks i).place := by unfold zfz ofP; rw [if_neg hk]; rfl
  rw [hel]
  simp only [if_neg hk] at HO
  go_enter Tryz.func199, Tryz.ntmps199
  go_wp2
  go_region_law (go_simp; go_at_call 52; refine (HO.out _ (by first | exact hs | exact hs.drew)).mono ?_; rintro e' w' ⟨rfl, hF0⟩; refine dead (P := Tryz.prog) (w := w') ?hh ?_; (case hh => exact And.intro rfl (And.intro rfl (hF0.undrew.mono (fun k h => .inl (.inl h))))))
  all_goals trivial
theorem method_one (W : World) (b g T c r q : Nat) (toks : List Tok) (i : Nat) (cells : Array Value) (n : Nat) (xs : List Value) (v : Value) (hi : i < toks.length) (hs : PSt W g T c toks i) (hb0 : b ≤ W.heap.size) (hn : n ≤ 1000)
  (hr : W.heap[r]? = some (.cells #[.pointer (some ⟨g, 0, none⟩)] 71 (0, 0))) (hq : W.heap[q]? = some (.cells cells 60 (0, 0))) (hv : cells[5]? = some v) (hrow : Row W b 9 1 v n xs) :
  Calls Tryz.prog 203 #[.pointer (some ⟨q, 0, none⟩), .pointer (some ⟨r, 0, none⟩)] W (OneP (fun p : ByteArray => [Value.string p]) W b g T c q 5 9 1 toks cells n xs v (zdh toks i)) := by
 have c3 : W.cell? ⟨q, 5, none⟩ = some v := (zae hq 5).trans hv
 have c0 : W.cell? ⟨r, 0, none⟩ = some (.pointer (some ⟨g, 0, none⟩)) := zae hr 0
 have HO := Zq.mk (fun W' (h' : PSt W' g T c toks i) => zfi W' g T c toks i _ (zbt toks hi) 3 h')
 have hnq : ¬ q = g := fun e => by
  subst e
  have h1 := hs.src
  rw [hq] at h1
  injection h1 with h1
  injection h1 with _ h2
  exact absurd h2 (by decide)
 have hnr : ¬ r = g := fun e => by
  subst e
  have h1 := hs.src
  rw [hr] at h1
  injection h1 with h1
  injection h1 with _ h2
  exact absurd h2 (by decide)
 have hvg : ∀ g', v.ownBlock = some g' → ¬ g' = g := fun g' hg' e => hrow.ne hs.src (by decide) (by rw [hg', e])
 have hvq : v.ownBlock ≠ some q := hrow.ne hq (by decide)
 have hf3 := zml
 by_cases hk : (tk toks i).kind = 3
 ·have hel : zdh toks i = .ok (tk toks i).text (i + 1) := by unfold zdh ofP; rw [if_pos hk]; rfl
  rw [hel]
  simp only [if_pos hk] at HO
  go_enter Tryz.func203, Tryz.ntmps203
  go_wp2
  go_region_law (first
   | (go_simp; go_at_call 52; refine (HO.out _ (by first | exact hs | exact hs.drew)).mono ?_; rintro e' w' ⟨⟨rfl, hS⟩, hF0⟩; have hF := hF0.undrew; clear hF0; have k3 : w'.cell? ⟨q, 5, none⟩ = some v := (zae (hF.blk (g := q) hq hnq) 5).trans hv; have k3a : ∀ o, (w'.alloc o).cell? ⟨q, 5, none⟩ = some v := fun o => (zae (zad (hF.blk (g := q) hq hnq) o) 5).trans hv; have k0 : w'.cell? ⟨r, 0, none⟩ = some (.pointer (some ⟨g, 0, none⟩)) := zae (hF.blk (g := r) hr hnr) 0)
   | (refine zeq b (by rfl) (.tmp 3) (.tmp 7) 25 9 (.string ⟨#[]⟩) 1 16 rfl rfl rfl rfl (by decide) v n xs [.string (tk toks i).text] rfl rfl rfl ?aU (hrow.fr hF hvg) (Nat.le_trans hb0 hF.size) ?aM ?aL ?_; (case aU => intro u hu; simp at hu; subst hu; rfl); (case aM => simp only [maxLen]; omega); (case aL => omega); intro v1 w1 hr1 hg1 hat1 hne1; have hq1 : w1.heap[q]? = some (.cells cells 60 (0, 0)) := (hg1.block q (Nat.lt_of_lt_of_le (zat hq) hF.size) (fun e => hvq e.symm)).trans (hF.blk (g := q) hq hnq); have q3 := (zae hq1 5).trans hv; have q3f := zaf hq1 5; obtain ⟨A1, cap1, rfl, hcap1, -⟩ := hr1.form))
  all_goals (first | go_end0 | (refine bodyPost_ret (results_none rfl _ _ _) rfl ?_))
  all_goals
   obtain ⟨e1, e2, e3⟩ := znp (f := 5) hs hS hF hq hrow (by decide) (by decide) (by decide) hg1 hr1 rfl
   exact ⟨⟨rfl, e1, e2⟩, e3⟩
 ·have hel : zdh toks i = .bad 90 (tk toks i).place := by unfold zdh ofP; rw [if_neg hk]; rfl
  rw [hel]
  simp only [if_neg hk] at HO
  go_enter Tryz.func203, Tryz.ntmps203
  go_wp2
  go_region_law (go_simp; go_at_call 52; refine (HO.out _ (by first | exact hs | exact hs.drew)).mono ?_; rintro e' w' ⟨rfl, hF0⟩; refine dead (P := Tryz.prog) (w := w') ?hh ?_; (case hh => exact And.intro rfl (And.intro rfl (hF0.undrew.mono (fun k h => .inl (.inl h))))))
  all_goals trivial
end
section
structure By (W : World) (b g T c r q f ty sz : Nat) (toks : List Tok) (cells : Array Value) (n : Nat) (xs : List Value) (v : Value) (j : Nat) (W' : World) : Prop where
 st : PSt W' g T c toks j
 fr : Fr W W' (· = g)
 ptr : ∀ o, (W'.alloc o).cell? ⟨r, 0, none⟩ = some (.pointer (some ⟨g, 0, none⟩))
 ptr0 : W'.cell? ⟨r, 0, none⟩ = some (.pointer (some ⟨g, 0, none⟩))
 here : ∀ o, (W'.alloc o).cell? ⟨q, f, none⟩ = some v
 here0 : W'.cell? ⟨q, f, none⟩ = some v
 blk : W'.heap[q]? = some (.cells cells 60 (0, 0))
 row : Row W' b ty sz v n xs
section
variable {W W1 W' : World} {b g T c r q f ty sz n i j : Nat} {toks : List Tok} {cells : Array Value} {xs : List Value} {v : Value}
theorem By.mk0 (hs : PSt W g T c toks i) (hr : W.heap[r]? = some (.cells #[.pointer (some ⟨g, 0, none⟩)] 71 (0, 0))) (hq : W.heap[q]? = some (.cells cells 60 (0, 0))) (hv : cells[f]? = some v) (hrow : Row W b ty sz v n xs)
  (hF : Fr W W' (· = g)) (hS : PSt W' g T c toks j) (hne : ty ≠ 73) : By W b g T c r q f ty sz toks cells n xs v j W' := by
 have hnq : ¬ q = g := fun e => by
  subst e
  have h1 := hs.src
  rw [hq] at h1
  injection h1 with h1
  injection h1 with _ h2
  exact absurd h2 (by decide)
 have hnr : ¬ r = g := fun e => by
  subst e
  have h1 := hs.src
  rw [hr] at h1
  injection h1 with h1
  injection h1 with _ h2
  exact absurd h2 (by decide)
 have h1 := hF.blk (g := r) hr hnr
 have h2 := hF.blk (g := q) hq hnq
 exact ⟨hS, hF, fun o => zae (zad h1 o) 0, zae h1 0, fun o => (zae (zad h2 o) f).trans hv, (zae h2 f).trans hv, h2, hrow.fr hF (fun g' hg' e => hrow.ne hs.src hne (by rw [hg', e]))⟩
end
theorem port_one (W : World) (b g T c r q : Nat) (toks : List Tok) (i : Nat) (cells : Array Value) (n : Nat) (xs : List Value) (v : Value) (hi : i < toks.length) (hend : ∀ k, k < toks.length → (tk toks k).kind ≠ 8 → k + 1 < toks.length) (hs : PSt W g T c toks i) (hb0 : b ≤ W.heap.size) (hn : n ≤ 1000)
  (hr : W.heap[r]? = some (.cells #[.pointer (some ⟨g, 0, none⟩)] 71 (0, 0))) (hq : W.heap[q]? = some (.cells cells 60 (0, 0))) (hv : cells[4]? = some v) (hrow : Row W b 68 2 v n xs) :
  Calls Tryz.prog 201 #[.pointer (some ⟨r, 0, none⟩), .pointer (some ⟨q, 0, none⟩)] W (OneP (fun p : S68 => [Value.int .i64 p.f0, Value.int .i64 p.f1]) W b g T c q 4 68 2 toks cells n xs v (zel toks i)) := by
 have hE : ∀ W', Fr W W' (· = g) → Fr W W' (fun k => k = g ∨ k = q ∨ some k = v.ownBlock) := fun W' h => h.mono (fun k h => .inl (.inl h))
 have HY := Zq.mk (fun W' j hF hS => By.mk0 (W' := W') (j := j) (f := 4) hs hr hq hv hrow hF hS (by decide))
 have B0 := HY.out W i (Fr.refl _ _) hs
 have p0 := B0.ptr0
 have hf2 := tok_f2
 have HO := Zq.mk (fun W' j hj (h' : PSt W' g T c toks j) => zfi W' g T c toks j _ (zbt toks hj) 4 h')
 have HT := Zq.mk (fun W' j hj (h' : PSt W' g T c toks j) => zch W' g T c toks j _ (zbt toks hj) zfc h')
 have HE := Zq.mk hE
 have HF0 := Zq.mk (Fr.refl W (· = g))
 clear hE
 have fin : ∀ (W1 w1 : World) (j : Nat) (v1 : Value) (y : S68), By W b g T c r q 4 68 2 toks cells n xs v j W1 → W1.grownBy w1 v.ownBlock → Row w1 b 68 2 v1 (n + 1) (xs ++ [.int .i64 y.f0, .int .i64 y.f1]) → v1.cells.size = 1 →
   OneP (fun p : S68 => [Value.int .i64 p.f0, Value.int .i64 p.f1]) W b g T c q 4 68 2 toks cells n xs v (.ok y j) (.returned (.tuple #[])) (w1.setCell ⟨q, 4, none⟩ v1) := fun W1 w1 j v1 y hB hg hr1 hc1 => by
  obtain ⟨e1, e2, e3⟩ := znp (f := 4) hs hB.st hB.fr hq hrow (by decide) (by decide) (by decide) hg hr1 hc1
  exact ⟨⟨rfl, e1, e2⟩, e3⟩
 have FIN := Zq.mk fin
 clear fin
 have HS := Zq.mk hs
 have hi' := hi
 clear hs hr hq B0
 by_cases h1 : (tk toks i).kind = 4
 ·have hj : i + 1 < toks.length := hend i hi (by omega)
  have HO1 := Zq.mk (fun W' (h' : PSt W' g T c toks i) => HO.out W' i hi h')
  have HT1 := Zq.mk (fun W' (h' : PSt W' g T c toks (i + 1)) => HT.out W' (i + 1) hj h')
  simp only [if_pos h1] at HO1
  by_cases h2 : isT (tk toks (i + 1)) zfc = true
  ·simp only [h2, if_true] at HT1
   have hk : i + 1 + 1 < toks.length := hend (i + 1) hj (zbk h2)
   have HO2 := Zq.mk (fun W' (h' : PSt W' g T c toks (i + 1 + 1)) => HO.out W' (i + 1 + 1) hk h')
   clear HO HT
   by_cases h3 : (tk toks (i + 1 + 1)).kind = 4
   ·have hel : zel toks i = .ok ⟨(tk toks i).num, (tk toks (i + 1 + 1)).num⟩ (i + 1 + 1 + 1) := by unfold zel ofP; rw [if_pos h1]; simp only [PR.bind]; rw [if_pos h2, if_pos h3]
    rw [hel]
    simp only [if_pos h3] at HO2
    go_enter Tryz.func201, Tryz.ntmps201
    go_wp2_with (first
     | (go_at_call 52; refine (HO1.out _ HS.out).mono ?_; rintro e' w' ⟨⟨rfl, hS⟩, hF0⟩; have hB := HY.out _ _ hF0 hS; have p1 := hB.ptr0; have HB := Zq.mk hB; clear hB hS hF0)
     | (go_at_call 78; refine (HT1.out _ HB.out.st).mono ?_; rintro e' w2 ⟨rfl, hS, hF0⟩; have hB := HY.out _ _ (HB.out.fr.trans hF0) hS; have p2 := hB.ptr0; have p3 := hB.here0; have p4 := hB.here; have HB2 := Zq.mk hB; clear hB hS hF0)
     | (go_at_call 52; refine (HO2.out _ HB2.out.st).mono ?_; rintro e' w3 ⟨⟨rfl, hS⟩, hF0⟩; have hB := HY.out _ _ (HB2.out.fr.trans hF0) hS; have p5 := hB.here0; have p6 := hB.here; have HB3 := Zq.mk hB; clear hB hS hF0)
     | ((with_reducible refine zbd (b := .append) (xs := #[.tmp 14, .tmp 18]) rfl ?_); at_builtin; refine zcj (w0 := W) b rfl (.tmp 14) (.tmp 18) 57 68 (.agg #[.int .i64 0, .int .i64 0]) 2 16 rfl rfl rfl rfl (by decide) v n xs [.int .i64 (tk toks i).num, .int .i64 (tk toks (i + 1 + 1)).num] rfl rfl rfl ?aU HB3.out.row (Nat.le_trans hb0 HB3.out.fr.size) ?aM ?aL ?_; (case aU => intro u hu; simp at hu; rcases hu with rfl | rfl <;> rfl); (case aM => simp only [maxLen]; omega); (case aL => omega); intro v1 w1 hr1 hg1 hat1 hne1 hu1; have hq1 := (hg1.block q (zat HB3.out.blk) (fun e => (HB3.out.row.ne HB3.out.blk (by decide)) e.symm)).trans HB3.out.blk; have q3 := (zae hq1 4).trans hv; have q3f := zaf hq1 4; obtain ⟨A1, cap1, rfl, hcap1, -⟩ := hr1.form))
    all_goals (first | go_end0 | (refine bodyPost_ret (results_none rfl _ _ _) rfl ?_))
    all_goals exact FIN.out _ _ _ _ ⟨(tk toks i).num, (tk toks (i + 1 + 1)).num⟩ HB3.out hg1 hr1 rfl
   ·have hel : zel toks i = .bad 90 (tk toks (i + 1 + 1)).place := by unfold zel ofP; rw [if_pos h1]; simp only [PR.bind]; rw [if_pos h2, if_neg h3]
    rw [hel]
    simp only [if_neg h3] at HO2
    go_enter Tryz.func201, Tryz.ntmps201
    go_wp2_with (first
     | (go_at_call 52; refine (HO1.out _ HS.out).mono ?_; rintro e' w' ⟨⟨rfl, hS⟩, hF0⟩; have hB := HY.out _ _ hF0 hS; have p1 := hB.ptr0; have HB := Zq.mk hB; clear hB hS hF0)
     | (go_at_call 78; refine (HT1.out _ HB.out.st).mono ?_; rintro e' w2 ⟨rfl, hS, hF0⟩; have hB := HY.out _ _ (HB.out.fr.trans hF0) hS; have p2 := hB.ptr0; have p3 := hB.here0; have p4 := hB.here; have HB2 := Zq.mk hB; clear hB hS hF0)
     | (go_at_call 52; refine (HO2.out _ HB2.out.st).mono ?_; rintro e' w3 ⟨rfl, hF0⟩; have hG := HE.out _ (HB2.out.fr.trans hF0)))
    exact ⟨rfl, rfl, hG⟩
  ·have h2' : isT (tk toks (i + 1)) zfc = false := by simpa using h2
   simp only [h2', Bool.false_eq_true, if_false] at HT1
   have hel : zel toks i = .ok ⟨(tk toks i).num, (tk toks i).num⟩ (i + 1) := by unfold zel ofP; rw [if_pos h1]; simp only [PR.bind]; rw [if_neg h2]
   rw [hel]
   go_enter Tryz.func201, Tryz.ntmps201
   go_wp2_with (first
     | (go_at_call 52; refine (HO1.out _ HS.out).mono ?_; rintro e' w' ⟨⟨rfl, hS⟩, hF0⟩; have hB := HY.out _ _ hF0 hS; have p1 := hB.ptr0; have HB := Zq.mk hB; clear hB hS hF0)
     | (go_at_call 78; refine (HT1.out _ HB.out.st).mono ?_; rintro e' w2 ⟨rfl, hS, hF0⟩; have hB := HY.out _ _ (HB.out.fr.trans hF0) hS; have p2 := hB.ptr0; have p3 := hB.here0; have p4 := hB.here; have HB2 := Zq.mk hB; clear hB hS hF0)
     | ((with_reducible refine zbd (b := .append) (xs := #[.tmp 14, .tmp 18]) rfl ?_); at_builtin; refine zcj (w0 := W) b rfl (.tmp 14) (.tmp 18) 57 68 (.agg #[.int .i64 0, .int .i64 0]) 2 16 rfl rfl rfl rfl (by decide) v n xs [.int .i64 (tk toks i).num, .int .i64 (tk toks i).num] rfl rfl rfl ?aU HB2.out.row (Nat.le_trans hb0 HB2.out.fr.size) ?aM ?aL ?_; (case aU => intro u hu; simp at hu; rcases hu with rfl | rfl <;> rfl); (case aM => simp only [maxLen]; omega); (case aL => omega); intro v1 w1 hr1 hg1 hat1 hne1 hu1; have hq1 := (hg1.block q (zat HB2.out.blk) (fun e => (HB2.out.row.ne HB2.out.blk (by decide)) e.symm)).trans HB2.out.blk; have q3 := (zae hq1 4).trans hv; have q3f := zaf hq1 4; obtain ⟨A1, cap1, rfl, hcap1, -⟩ := hr1.form))
   all_goals (first | go_end0 | (refine bodyPost_ret (results_none rfl _ _ _) rfl ?_))
   all_goals exact FIN.out _ _ _ _ ⟨(tk toks i).num, (tk toks i).num⟩ HB2.out hg1 hr1 rfl
 ·have hel : zel toks i = .bad 90 (tk toks i).place := by unfold zel ofP; rw [if_neg h1]; rfl
  rw [hel]
  have HO1 := Zq.mk (fun W' (h' : PSt W' g T c toks i) => HO.out W' i hi h')
  simp only [if_neg h1] at HO1
  go_enter Tryz.func201, Tryz.ntmps201
  go_wp2_with (go_at_call 52; refine (HO1.out _ HS.out).mono ?_; rintro e' w3 ⟨rfl, hF0⟩; have hG := HE.out _ hF0)
  exact ⟨rfl, rfl, hG⟩
end
section
theorem zcg {P : Program} (f : Nat) {xs : Array Value} {W : World} {Q : Ending → World → Prop} (h : Calls P f xs W Q) : Calls P f xs W Q := h
def EndP {α : Type} (r : PR α) (ok : α → Nat → Ending → World → Prop) (B : World → Prop) (e : Ending) (W' : World) : Prop := match r with
 | .ok a j => ok a j e W'
 | .bad k p => e = .panicked [zfx k p] ∧ B W'
section
variable {β : Type} (toks : List Tok) (elem : Nat → PR β) (want : Int) (fn : Nat) (a1 a2 : Value) (g T c : Nat) (I : Nat → List β → World → Prop) (B : World → Prop)
theorem zhu (hcf : ∀ w, (callFunc fn #[a1, a2]).run Tryz.prog w = .ok (.enter fn #[a1, a2]) w) (hend : ∀ k, k < toks.length → (tk toks k).kind ≠ 8 → k + 1 < toks.length)
  (hI : ∀ i acc W, I i acc W → PSt W g T c toks i) (hM : ∀ i j acc W W', I i acc W → PSt W' g T c toks j → Fr W W' (· = g) → I j acc W') (hB : ∀ i acc W W', I i acc W → Fr W W' (· = g) → B W')
  (hone : ∀ i acc W, i < toks.length → acc.length ≤ 32 → I i acc W → Calls Tryz.prog fn #[a1, a2] W (EndP (elem i) (fun y j e W' => e = .returned (.tuple #[]) ∧ I j (acc ++ [y]) W') B))
  (helem : ∀ i y j, i < toks.length → elem i = .ok y j → j < toks.length ∧ (tk toks i).kind = want)
  (K i : Nat) (res : PR (List β)) (hres : zgl toks elem want K i = some res) (W : World) (hW : I i [] W) (hi : i < toks.length) :
  Calls Tryz.prog 198 #[.pointer (some ⟨g, 0, none⟩), .int .i64 want, .func (.func fn) #[] #[a1, a2]] W (EndP res (fun l j e W' => e = .returned (.tuple #[]) ∧ I j l W' ∧ j < toks.length ∧ l.length ≤ 33) B) := by
 have HW := Zq.mk (fun W' j s hj (h' : PSt W' g T c toks j) => zde W' g T c toks j _ (zbt toks hj) s h')
 have HT := Zq.mk (fun W' j hj (h' : PSt W' g T c toks j) => zch W' g T c toks j _ (zbt toks hj) zha h')
 have HP := Zq.mk (fun W' j hj (h' : PSt W' g T c toks j) => zca W' g T c toks j _ (zbt toks hj) h')
 have HF := Zq.mk (fun W' j hj (h' : PSt W' g T c toks j) => zdt W' g T c toks j _ (zbt toks hj) 92 h')
 have HI := Zq.mk hI
 have HM := Zq.mk hM
 have HB := Zq.mk hB
 have HO := Zq.mk hone
 have HE := Zq.mk helem
 have HN := Zq.mk hend
 have HX := Zq.mk hW
 have hmf := zqp
 clear hI hM hB hone helem hend hW
 unfold zgl at hres
 unfold zby at hres
 by_cases h1 : isT (tk toks i) sIn = true
 ·have hi1 := HN.out i hi (zbk h1)
  have HW1 := Zq.mk (fun W' h' => HW.out W' i sIn hi h')
  simp only [if_pos h1] at hres HW1
  by_cases h2 : isT (tk toks (i + 1)) zll = true
  ·have hi2 := HN.out _ hi1 (zbk h2)
   have HW2 := Zq.mk (fun W' h' => HW.out W' (i + 1) zll hi1 h')
   simp only [if_pos h2] at hres HW2
   have HR := Zq.mk hres
   clear hres
   go_enter Tryz.func198, Tryz.ntmps198
   go_wp2_with (first
    | (go_at_call 53; refine (HW1.out _ (HI.out _ _ _ HX.out)).mono ?_; rintro e1 w1 ⟨⟨rfl, hS1⟩, hF1⟩; have HX1 := Zq.mk (HM.out _ _ _ _ _ HX.out hS1 hF1); clear hS1 hF1 HW1)
    | (go_at_call 53; refine (HW2.out _ (HI.out _ _ _ HX1.out)).mono ?_; rintro e2 w2 ⟨⟨rfl, hS2⟩, hF2⟩; have HX2 := Zq.mk (HM.out _ _ _ _ _ HX1.out hS2 hF2); clear hS2 hF2))
   go_loopg [6] K (fun k n wr => ∃ i' : Nat, ∃ acc : List β, n = .int .i64 acc.length ∧ i' < toks.length ∧ acc.length ≤ 32 ∧ Zq (I i' acc wr) ∧ Zq (zfv toks elem want k i' acc = some res))
   case atStart => exact ⟨_, [], rfl, hi2, by simp, HX2, HR⟩
   case round =>
    clear HR HX HX1 HX2 h1 h2 hi1 hi2 hi
    obtain ⟨i', acc, rfl, hi', hl, HX, HR⟩ := hrel
    have hr := HR.out
    cases gk with
    | zero => exact absurd hr (by simp [zfv])
    | succ k =>
    unfold zfv at hr
    clear HR
    by_cases hk : acc.length = 32 ∧ (tk toks i').kind = want
    ·rw [if_pos hk] at hr
     obtain ⟨hA, hk⟩ := hk
     have hA' : (acc.length : Int) = 32 := by omega
     have hr := Option.some.inj hr
     subst hr
     go_wp2_with (first
      | (go_at_call 28; refine (HP.out _ i' hi' (HI.out _ _ _ HX.out)).mono ?_; rintro e1 w1 ⟨rfl, hb⟩; have HX1 := Zq.mk (HM.out _ i' _ _ _ HX.out ((HI.out _ _ _ HX.out).below hb) (Fr.of_below hb)); clear hb HX HP)
      | (go_at_call 51; refine (HF.out _ i' hi' (HI.out _ _ _ HX1.out)).mono ?_; rintro e2 w2 ⟨rfl, hb⟩))
     exact ⟨rfl, rfl, HB.out _ _ _ _ HX1.out (Fr.of_below hb)⟩
    ·rw [if_neg hk] at hr
     cases hel : elem i' with
     | bad ke pe =>
      rw [hel] at hr
      have hr := Option.some.inj hr
      subst hr
      have HO1 := Zq.mk (fun W' h' => HO.out i' acc W' hi' hl h')
      rw [hel] at HO1
      by_cases hA : acc.length = 32
      ·have hk' : ¬ (tk toks i').kind = want := fun e => hk ⟨hA, e⟩
       have hA' : (acc.length : Int) = 32 := by omega
       go_wp2_with (first
        | (go_at_call 28; refine (HP.out _ i' hi' (HI.out _ _ _ HX.out)).mono ?_; rintro e1 w1 ⟨rfl, hb⟩; have HX1 := Zq.mk (HM.out _ i' _ _ _ HX.out ((HI.out _ _ _ HX.out).below hb) (Fr.of_below hb)); clear hb HX HP)
        | ((with_reducible refine zcg fn ?_); refine (HO1.out _ HX1.out).mono ?_; rintro e2 w2 ⟨rfl, hb⟩; clear HO1))
       exact ⟨rfl, rfl, hb⟩
      ·have hA' : ¬ (acc.length : Int) = 32 := by omega
       go_wp2_with ((with_reducible refine zcg fn ?_); refine (HO1.out _ HX.out).mono ?_; rintro e2 w2 ⟨rfl, hb⟩)
       exact ⟨rfl, rfl, hb⟩
     | ok y j =>
      rw [hel] at hr
      simp only at hr
      obtain ⟨hj, hkw⟩ := HE.out i' y j hi' hel
      have hA : ¬ acc.length = 32 := fun e => hk ⟨e, hkw⟩
      have hA' : ¬ (acc.length : Int) = 32 := by omega
      have HO1 := Zq.mk (fun W' h' => HO.out i' acc W' hi' hl h')
      have HT1 := Zq.mk (fun W' h' => HT.out W' j hj h')
      rw [hel] at HO1
      by_cases hc : isT (tk toks j) zha = true
      ·rw [if_pos hc] at hr
       have hj1 := HN.out j hj (zbk hc)
       have HR := Zq.mk hr
       clear hr
       simp only [hc, if_true] at HT1
       go_wp2_with (first
        | ((with_reducible refine zcg fn ?_); refine (HO1.out _ HX.out).mono ?_; rintro e1 w1 ⟨rfl, hX1⟩; have HX1 := Zq.mk hX1; clear hX1 HO1 HX)
        | (go_at_call 78; refine (HT1.out _ (HI.out _ _ _ HX1.out)).mono ?_; rintro e2 w2 ⟨rfl, hS2, hF2⟩; have HX2 := Zq.mk (HM.out _ _ _ _ _ HX1.out hS2 hF2); clear hS2 hF2))
       go_roundg k
       case measure => omega
       case rel => exact ⟨_, _, by simp, hj1, by simp; omega, HX2, HR⟩
      ·rw [if_neg hc] at hr
       have hr := Option.some.inj hr
       have hc' : isT (tk toks j) zha = false := by simpa using hc
       simp only [hc', Bool.false_eq_true, if_false] at HT1
       have HW1 := Zq.mk (fun W' h' => HW.out W' j zkn hj h')
       unfold zby at hr
       by_cases hd : isT (tk toks j) zkn = true
       ·rw [if_pos hd] at hr
        simp only [if_pos hd] at HW1
        subst hr
        have hj1 := HN.out j hj (zbk hd)
        go_wp2_with (first
         | ((with_reducible refine zcg fn ?_); refine (HO1.out _ HX.out).mono ?_; rintro e1 w1 ⟨rfl, hX1⟩; have HX1 := Zq.mk hX1; clear hX1 HO1 HX)
         | (go_at_call 78; refine (HT1.out _ (HI.out _ _ _ HX1.out)).mono ?_; rintro e2 w2 ⟨rfl, hS2, hF2⟩; have HX2 := Zq.mk (HM.out _ _ _ _ _ HX1.out hS2 hF2); clear hS2 hF2)
         | (go_at_call 53; refine (HW1.out _ (HI.out _ _ _ HX2.out)).mono ?_; rintro e3 w3 ⟨⟨rfl, hS3⟩, hF3⟩; have HX3 := Zq.mk (HM.out _ _ _ _ _ HX2.out hS3 hF3); clear hS3 hF3))
        first | go_end0 | (refine bodyPost_ret (results_none rfl _ _ _) rfl ?_)
        exact ⟨rfl, HX3.out, hj1, by simp; omega⟩
       ·rw [if_neg hd] at hr
        simp only [if_neg hd] at HW1
        subst hr
        go_wp2_with (first
         | ((with_reducible refine zcg fn ?_); refine (HO1.out _ HX.out).mono ?_; rintro e1 w1 ⟨rfl, hX1⟩; have HX1 := Zq.mk hX1; clear hX1 HO1 HX)
         | (go_at_call 78; refine (HT1.out _ (HI.out _ _ _ HX1.out)).mono ?_; rintro e2 w2 ⟨rfl, hS2, hF2⟩; have HX2 := Zq.mk (HM.out _ _ _ _ _ HX1.out hS2 hF2); clear hS2 hF2)
         | (go_at_call 53; refine (HW1.out _ (HI.out _ _ _ HX2.out)).mono ?_; rintro e3 w3 ⟨rfl, hF3⟩))
        exact ⟨rfl, rfl, HB.out _ _ _ _ HX2.out hF3⟩
  ·have HW2 := Zq.mk (fun W' h' => HW.out W' (i + 1) zll hi1 h')
   simp only [if_neg h2, Option.some.injEq] at hres HW2
   subst hres
   go_enter Tryz.func198, Tryz.ntmps198
   go_wp2_with (first
    | (go_at_call 53; refine (HW1.out _ (HI.out _ _ _ HX.out)).mono ?_; rintro e1 w1 ⟨⟨rfl, hS1⟩, hF1⟩; have HX1 := Zq.mk (HM.out _ _ _ _ _ HX.out hS1 hF1); clear hS1 hF1 HW1)
    | (go_at_call 53; refine (HW2.out _ (HI.out _ _ _ HX1.out)).mono ?_; rintro e2 w2 ⟨rfl, hF2⟩))
   exact ⟨rfl, rfl, HB.out _ _ _ _ HX1.out hF2⟩
 ·have HW1 := Zq.mk (fun W' h' => HW.out W' i sIn hi h')
  simp only [if_neg h1, Option.some.injEq] at hres HW1
  subst hres
  go_enter Tryz.func198, Tryz.ntmps198
  go_wp2_with (go_at_call 53; refine (HW1.out _ (HI.out _ _ _ HX.out)).mono ?_; rintro e1 w1 ⟨rfl, hF1⟩)
  exact ⟨rfl, rfl, HB.out _ _ _ _ HX.out hF1⟩
end
end
end Go.Proofs.YtjeekocidaogoaaGreatDoor.H

/- Plain law: what a condition's reader says of cut tokens. -/
/- Plain law: conditions, items and policies on cut tokens. -/
/- Plain law: items and policies on cut tokens, with whatever fuel. -/
import Derived.Test.YtjeekocidaogoaaGreatDoorK5Awb
set_option linter.unusedVariables false
set_option linter.unusedSimpArgs false
set_option maxRecDepth 100000
set_option maxHeartbeats 8000000
namespace Go.Proofs.YtjeekocidaogoaaGreatDoor.H
open Go.RowKit Go.Proofs.YtjeekocidaogoaaGreatDoor.Hand Go.Proofs.YtjeekocidaogoaaGreatDoorW.PrintWords Go.Proofs.YtjeekocidaogoaaGreatDoorW.PrintLast Go.Proofs.YtjeekocidaogoaaGreatDoorW.PrintMore
section
theorem zma {t : Tok} {s : ByteArray} (h : isT t s = true) : t.text.toList = s.toList := by
 unfold isT at h
 rw [Bool.and_eq_true, beq_iff_eq] at h
 exact h.2
theorem zes {t : Tok} {s u : ByteArray} (h : isT t s = true) (hne : s.toList ≠ u.toList) : isT t u = false := by
 cases hb : isT t u with
 | false => rfl
 | true => exact absurd ((zma h).symm.trans (zma hb)) hne
theorem zgr {t : Tok} {s : ByteArray} (h1 : t.kind ≠ 1) (h7 : t.kind ≠ 7) : isT t s = false := by
 cases hb : isT t s with
 | false => rfl
 | true =>
  unfold isT at hb
  rw [Bool.and_eq_true, Bool.or_eq_true, beq_iff_eq, beq_iff_eq] at hb
  omega
section
variable {toks : List Tok} (hend : ∀ k, k < toks.length → (tk toks k).kind ≠ 8 → k + 1 < toks.length) {i0 i : Nat}
abbrev zqm {α : Type} : α → α → Prop := fun _ _ => False
abbrev zil {α : Type} : α → α → Prop := fun _ _ => True
abbrev AnyH {α : Type} : α → Nat → Prop := fun _ _ => True
include hend in
theorem zmj (s : ByteArray) (hs : s.toList ≠ zff.toList) : CLaw toks zqm AnyH (fun toks i => some (zby toks s i)) i0 i :=
 CLaw.tok hend (fun t => isT t s = true) (fun _ => ()) (fun t h => by rw [zcz h]; decide) (fun t h => zes h hs) (fun _ => trivial)
theorem zfo (s : ByteArray) {c : Nat} {toks' : List Tok} (h : (tk toks' c).kind = 8) : zby toks' s c = .bad 90 (tk toks' c).place := by
 unfold zby
 rw [if_neg (by rw [zcz h]; decide)]
include hend in
theorem zgo (k : Int) (h1 : k ≠ 1) (h7 : k ≠ 7) (h8 : k ≠ 8) : CLaw toks zqm AnyH (fun toks i => some (ofP toks k i)) i0 i :=
 CLaw.tok hend (fun t => t.kind = k) (fun t => t) (fun t h e => h8 (e.symm.trans h)) (fun t h => zgr (by rw [h]; exact h1) (by rw [h]; exact h7)) (fun _ => trivial)
theorem znq {k : Int} (h8 : k ≠ 8) {c : Nat} {toks' : List Tok} (h : (tk toks' c).kind = 8) : ofP toks' k c = .bad 90 (tk toks' c).place := by
 unfold ofP
 rw [if_neg (by rw [h]; exact fun e => h8 e.symm)]
include hend in
theorem addrE_law : CLaw toks zil AnyH (fun toks i => some (zfz toks i)) i0 i :=
 CLaw.map (fun t : Tok => (⟨t.pa, t.pb⟩ : S47)) (zgo hend (toks := toks) (i0 := i0) (i := i) 5 (by decide +kernel) (by decide +kernel) (by decide +kernel)) (fun _ _ _ => trivial) (fun _ _ _ _ => trivial)
include hend in
theorem methodE_law : CLaw toks zil AnyH (fun toks i => some (zdh toks i)) i0 i :=
 CLaw.map (fun t : Tok => t.text) (zgo hend (toks := toks) (i0 := i0) (i := i) 3 (by decide +kernel) (by decide +kernel) (by decide +kernel)) (fun _ _ _ => trivial) (fun _ _ _ _ => trivial)
theorem portE_eq : (fun toks i => some (zel toks i)) = zcl (fun toks i => some (ofP toks 4 i)) (fun t toks j => if isT (tk toks j) zfc = true then (fun toks k => (some (ofP toks 4 k)).map fun r => r.bind fun u k => .ok (⟨t.num, u.num⟩ : S68) k) toks (j + 1) else some (.ok ⟨t.num, t.num⟩ j)) := by
 funext toks i
 unfold zel zcl
 dsimp only
 cases ofP toks 4 i with
 | bad e p => rfl
 | ok t j =>
  show some (if _ then _ else _) = _
  dsimp only
  split <;> rfl
include hend in
theorem portE_law : CLaw toks zil AnyH (fun toks i => some (zel toks i)) i0 i := by
 rw [portE_eq]
 refine CLaw.bind (zgo hend 4 (by decide +kernel) (by decide +kernel) (by decide +kernel)) (fun t j _ _ => ?_) fun t c toks' he => ?_
 ·by_cases hm : isT (tk toks j) zfc = true
  ·intro r hr
   dsimp only at hr
   rw [if_pos hm] at hr
   have := (CLaw.map (toks := toks) (i0 := i0) (i := j + 1) (R' := zil) (H' := AnyH) (fun u : Tok => (⟨t.num, u.num⟩ : S68)) (zgo hend 4 (by decide +kernel) (by decide +kernel) (by decide +kernel)) (fun _ _ _ => trivial) (fun _ _ _ _ => trivial)) r hr
   have hu0 : ∀ toks', tk toks' j = tk toks j → (if isT (tk toks' j) zfc = true then (some (ofP toks' 4 (j + 1))).map (fun r => r.bind fun u k => PR.ok (⟨t.num, u.num⟩ : S68) k) else some (.ok ⟨t.num, t.num⟩ j)) = (some (ofP toks' 4 (j + 1))).map (fun r => r.bind fun u k => PR.ok (⟨t.num, u.num⟩ : S68) k) := fun toks' e => by
    rw [e, if_pos hm]
   have hu1 : ∀ toks', Cut toks toks' j → (if isT (tk toks' j) zfc = true then (some (ofP toks' 4 (j + 1))).map (fun r => r.bind fun u k => PR.ok (⟨t.num, u.num⟩ : S68) k) else some (.ok ⟨t.num, t.num⟩ j)) = some (.ok ⟨t.num, t.num⟩ j) := fun toks' e => by
    rw [zcz e.2.1, if_neg (by decide)]
   have hS := zes (u := zff) hm (by decide +kernel)
   cases r with
   | ok x m =>
    obtain ⟨h1, h2, hl, h3, h4, h5⟩ := this
    refine ⟨by omega, trivial, fun hi => hl (hend j hi (zbk hm)), h3.cons hS, fun toks' hu => (hu0 toks' (hu.1 j (by omega))).trans (h4 toks' hu), fun c toks' k1 k2 hc => ?_⟩
    by_cases hcj : c = j
    ·subst hcj
     exact .inr ⟨_, hu1 toks' hc, trivial⟩
    ·rw [show (fun toks j => if isT (tk toks j) zfc = true then (fun toks k => (some (ofP toks 4 k)).map fun r => r.bind fun u k => PR.ok (⟨t.num, u.num⟩ : S68) k) toks (j + 1) else some (PR.ok ⟨t.num, t.num⟩ j)) toks' j = _ from hu0 toks' (hc.1 j (by omega))]
     exact h5 c toks' (by omega) k2 hc
   | bad e p =>
    obtain ⟨q, h1, hl, h2, h3, h4⟩ := this
    refine ⟨q, by omega, fun hi => hl (hend j hi (zbk hm)), h2.cons hS, fun toks' hu => (hu0 toks' (hu j (by omega))).trans (h3 toks' hu), ?_⟩
    rcases h4 with ⟨e1, hh, k1, k2, k3, k4⟩ | ⟨e1, e2, e3⟩
    ·subst e1
     refine .inl ⟨rfl, hh, k1, k2, k3, fun c toks' a1 a2 hc => ?_⟩
     by_cases hcj : c = j
     ·subst hcj
      exact .inr (.inr (.inl ⟨_, hu1 toks' hc⟩))
     ·rw [show (fun toks j => if isT (tk toks j) zfc = true then (fun toks k => (some (ofP toks 4 k)).map fun r => r.bind fun u k => PR.ok (⟨t.num, u.num⟩ : S68) k) toks (j + 1) else some (PR.ok ⟨t.num, t.num⟩ j)) toks' j = _ from hu0 toks' (hc.1 j (by omega))]
      exact k4 c toks' (by omega) a2 hc
    ·exact .inr ⟨e1, e2, fun toks' hc => (hu0 toks' (hc.1 j (by omega))).trans (e3 toks' hc)⟩
  ·exact CLaw.ite_neg (fun t => isT t zfc = true) (fun toks j => (fun toks k => (some (ofP toks 4 k)).map fun r => r.bind fun u k => PR.ok (⟨t.num, u.num⟩ : S68) k) toks (j + 1)) (fun t h => by rw [zcz h]; decide) hm (CLaw.pure _ trivial)
 ·right
  refine ⟨⟨t.num, t.num⟩, ?_, fun _ => trivial⟩
  dsimp only
  rw [zcz he, if_neg (by decide)]
theorem elem_end_addr {c : Nat} {toks' : List Tok} (h : (tk toks' c).kind = 8) : zfz toks' c = .bad 90 (tk toks' c).place := by unfold zfz; rw [znq (by decide +kernel) h]; rfl
theorem elem_end_port {c : Nat} {toks' : List Tok} (h : (tk toks' c).kind = 8) : zel toks' c = .bad 90 (tk toks' c).place := by unfold zel; rw [znq (by decide +kernel) h]; rfl
theorem elem_end_method {c : Nat} {toks' : List Tok} (h : (tk toks' c).kind = 8) : zdh toks' c = .bad 90 (tk toks' c).place := by unfold zdh; rw [znq (by decide +kernel) h]; rfl
def zre {β : Type} (elem : List Tok → Nat → PR β) (want : Int) (k : Nat) (acc : List β) (b : β) (toks : List Tok) (j : Nat) : Option (PR (List β)) :=
 if isT (tk toks j) zha = true then (fun toks j => zfv toks (elem toks) want k j (acc ++ [b])) toks (j + 1) else (fun toks j => (some (zby toks zkn j)).map fun r => r.bind fun _ m => .ok (acc ++ [b]) m) toks j
theorem listL_eq {β : Type} (elem : List Tok → Nat → PR β) (want : Int) (k : Nat) (acc : List β) :
  (fun toks i => zfv toks (elem toks) want (k + 1) i acc) = fun toks i => if acc.length = 32 ∧ (tk toks i).kind = want then some (.bad 92 (tk toks i).place) else zcl (fun toks i => some (elem toks i)) (zre elem want k acc) toks i := by
 funext toks i
 rw [zfv]
 split
 ·rfl
 ·unfold zcl zre
  dsimp only
  cases elem toks i with
  | bad e p => rfl
  | ok b j => rfl
include hend in
theorem listL_law {β : Type} (elem : List Tok → Nat → PR β) (want : Int) (h8 : want ≠ 8) (hE : ∀ i, CLaw toks zil AnyH (fun toks i => some (elem toks i)) i0 i) (hz : ∀ c toks', (tk toks' c).kind = 8 → elem toks' c = .bad 90 (tk toks' c).place) :
  ∀ (k i : Nat) (acc : List β), CLaw toks zqm AnyH (fun toks i => zfv toks (elem toks) want k i acc) i0 i := by
 intro k
 induction k with
 | zero => intro i acc r hr; cases hr
 | succ k ih =>
  intro i acc
  rw [listL_eq]
  by_cases h : acc.length = 32 ∧ (tk toks i).kind = want
  ·intro r hr
   dsimp only at hr
   rw [if_pos h] at hr
   obtain rfl := Option.some.inj hr
   refine ⟨i, Nat.le_refl _, id, zgm.nil _ _, fun toks' hu => ?_, .inr ⟨.inr rfl, rfl, fun toks' hc => ?_⟩⟩
   ·dsimp only
    rw [hu i (Nat.le_refl _), if_pos h]
   ·dsimp only
    rw [if_neg (by rw [hc.2.1]; exact fun e => h8 e.2.symm)]
    rw [zbu (e := 90) (p := (tk toks' i).place) (by rw [hz i toks' hc.2.1]), hc.2.2]
  ·refine CLaw.ite_neg (fun t => acc.length = 32 ∧ t.kind = want) (fun toks i => some (.bad 92 (tk toks i).place)) (fun t h e => h8 (e.2.symm.trans h)) h ?_
   refine CLaw.bind (hE i) (fun b j _ _ => ?_) fun b c toks' he => .inl ?_
   ·by_cases hc : isT (tk toks j) zha = true
    ·exact CLaw.ite_pos hend (fun t => isT t zha = true) (fun _ toks j => zfv toks (elem toks) want k j (acc ++ [b])) (fun t h => by rw [zcz h]; decide) hc (zes hc (by decide +kernel)) (ih (j + 1) (acc ++ [b])) (fun _ _ _ h => h) fun toks' he => by
      rw [zfo _ he]; rfl
    ·exact CLaw.ite_neg (fun t => isT t zha = true) (fun toks j => zfv toks (elem toks) want k (j + 1) (acc ++ [b])) (fun t h => by rw [zcz h]; decide) hc (CLaw.map (fun _ => acc ++ [b]) (zmj hend zkn (by decide +kernel)) (fun _ _ h => h) (fun _ _ _ h => h))
   ·unfold zre
    dsimp only
    rw [zcz he, if_neg (by decide), zfo _ he]
    rfl
theorem listP_eq {β : Type} (elem : List Tok → Nat → PR β) (want : Int) (k : Nat) :
  (fun toks i => zgl toks (elem toks) want k i) = zcl (fun toks i => some (zby toks sIn i)) (fun _ => zcl (fun toks i => some (zby toks zll i)) (fun _ toks m => zfv toks (elem toks) want k m [])) := by
 funext toks i
 unfold zgl zcl
 dsimp only
 cases zby toks sIn i with
 | bad e p => rfl
 | ok _ j =>
  dsimp only
  cases zby toks zll j with
  | bad e p => rfl
  | ok _ m => rfl
include hend in
theorem zfn {β : Type} {R : β → β → Prop} {H : β → Nat → Prop} (s : ByteArray) (hs : s.toList ≠ zff.toList) {F : Unit → List Tok → Nat → Option (PR β)} (hF : isT (tk toks i) s = true → CLaw toks R H (F ()) i0 (i + 1)) :
  CLaw toks R H (zcl (fun toks i => some (zby toks s i)) F) i0 i :=
 CLaw.tokbind hend (fun t => isT t s = true) (fun _ => ()) (fun t h => by rw [zcz h]; decide) (fun t h => zes h hs) hF
include hend in
theorem zpo {β : Type} {R : β → β → Prop} {H : β → Nat → Prop} (k : Int) (h1 : k ≠ 1) (h7 : k ≠ 7) (h8 : k ≠ 8) {F : Tok → List Tok → Nat → Option (PR β)} (hF : (tk toks i).kind = k → CLaw toks R H (F (tk toks i)) i0 (i + 1)) :
  CLaw toks R H (zcl (fun toks i => some (ofP toks k i)) F) i0 i :=
 CLaw.tokbind hend (fun t => t.kind = k) (fun t => t) (fun t h e => h8 (e.symm.trans h)) (fun t h => zgr (by rw [h]; exact h1) (by rw [h]; exact h7)) hF
include hend in
theorem zjr {β : Type} (elem : List Tok → Nat → PR β) (want : Int) (h8 : want ≠ 8) (hE : ∀ i, CLaw toks zil AnyH (fun toks i => some (elem toks i)) i0 i) (hz : ∀ c toks', (tk toks' c).kind = 8 → elem toks' c = .bad 90 (tk toks' c).place) (k : Nat) :
  CLaw toks zqm AnyH (fun toks i => zgl toks (elem toks) want k i) i0 i := by
 rw [listP_eq]
 exact zfn hend sIn (by decide +kernel) fun _ => zfn hend zll (by decide +kernel) fun _ => listL_law hend elem want h8 hE hz k _ []
def HdC (toks : List Tok) (i : Nat) (x : CD) (j : Nat) : Prop := ∃ h, i ≤ h ∧ h < j ∧ x.1.f7 = (tk toks h).place
def LeC (y x : CD) : Prop := y.2 ≤ x.2 ∧ y.1.f7 = x.1.f7
theorem zla {t : Tok} (h : isOp t = true) : t.text.toList = zqh.toList ∨ t.text.toList = znz.toList ∨ t.text.toList = zqk.toList ∨ t.text.toList = zqi.toList ∨ t.text.toList = zlm.toList ∨ t.text.toList = zqj.toList ∨ t.text.toList = zln.toList ∨ t.text.toList = sHas.toList := by
 simpa [isOp, beq_iff_eq] using h
include hend in
theorem atomP_law (t : Tok) (ho : isOp t = true) (k : Nat) : CLaw toks LeC (fun x _ => x.1.f7 = t.place) (fun toks i => zgv toks t k i) i0 i := by
 unfold zgv
 by_cases h1 : t.text.toList = zqh.toList
 ·simp only [if_pos h1]; exact CLaw.pure _ rfl
 simp only [if_neg h1]
 by_cases h2 : t.text.toList = znz.toList
 ·simp only [if_pos h2]; exact CLaw.pure _ rfl
 simp only [if_neg h2]
 by_cases h3 : t.text.toList = zqk.toList
 ·simp only [if_pos h3]
  exact CLaw.map (fun l => ((⟨7, ⟨#[]⟩, ⟨#[]⟩, l, [], [], [], t.place⟩, 1) : CD)) (zjr hend zfz 5 (by decide +kernel) (fun i => addrE_law hend) (fun _ _ => elem_end_addr) k) (fun _ _ h => h.elim) (fun _ _ _ _ => rfl)
 simp only [if_neg h3]
 by_cases h4 : t.text.toList = zqi.toList
 ·simp only [if_pos h4]
  exact CLaw.map (fun l => ((⟨8, ⟨#[]⟩, ⟨#[]⟩, [], l, [], [], t.place⟩, 1) : CD)) (zjr hend zel 4 (by decide +kernel) (fun i => portE_law hend) (fun _ _ => elem_end_port) k) (fun _ _ h => h.elim) (fun _ _ _ _ => rfl)
 simp only [if_neg h4]
 by_cases h5 : t.text.toList = zlm.toList
 ·simp only [if_pos h5]
  exact CLaw.map (fun l => ((⟨9, ⟨#[]⟩, ⟨#[]⟩, [], [], l, [], t.place⟩, 1) : CD)) (zjr hend zdh 3 (by decide +kernel) (fun i => methodE_law hend) (fun _ _ => elem_end_method) k) (fun _ _ h => h.elim) (fun _ _ _ _ => rfl)
 simp only [if_neg h5]
 by_cases h6 : t.text.toList = zqj.toList
 ·simp only [if_pos h6]
  have e : (fun toks i => some ((zby toks zdy i).bind fun _ j => (ofP toks 6 j).bind fun u m => PR.ok (((⟨10, ⟨#[]⟩, u.text, [], [], [], [], t.place⟩, 1) : CD)) m)) = zcl (fun toks i => some (zby toks zdy i)) fun _ toks j => (some (ofP toks 6 j)).map fun r => r.bind fun u m => PR.ok (((⟨10, ⟨#[]⟩, u.text, [], [], [], [], t.place⟩, 1) : CD)) m := by
   funext toks i
   unfold zcl
   dsimp only
   cases zby toks zdy i <;> rfl
  rw [e]
  exact zfn hend zdy (by decide +kernel) fun _ => CLaw.map (fun u : Tok => ((⟨10, ⟨#[]⟩, u.text, [], [], [], [], t.place⟩, 1) : CD)) (zgo hend 6 (by decide +kernel) (by decide +kernel) (by decide +kernel)) (fun _ _ h => h.elim) (fun _ _ _ _ => rfl)
 simp only [if_neg h6]
 by_cases h7 : t.text.toList = zln.toList
 ·simp only [if_pos h7]
  have e : (fun toks i => some ((ofP toks 6 i).bind fun n j => (zby toks zdy j).bind fun _ m => (ofP toks 6 m).bind fun u q => PR.ok (((⟨11, n.text, u.text, [], [], [], [], t.place⟩, 1) : CD)) q)) = zcl (fun toks i => some (ofP toks 6 i)) fun n => zcl (fun toks i => some (zby toks zdy i)) fun _ toks j => (some (ofP toks 6 j)).map fun r => r.bind fun u m => PR.ok (((⟨11, n.text, u.text, [], [], [], [], t.place⟩, 1) : CD)) m := by
   funext toks i
   unfold zcl
   dsimp only
   cases ofP toks 6 i with
   | bad e p => rfl
   | ok n j =>
    dsimp only [PR.bind]
    cases zby toks zdy j <;> rfl
  rw [e]
  exact zpo hend 6 (by decide +kernel) (by decide +kernel) (by decide +kernel) fun _ => zfn hend zdy (by decide +kernel) fun _ => CLaw.map (fun u : Tok => ((⟨11, (tk toks i).text, u.text, [], [], [], [], t.place⟩, 1) : CD)) (zgo hend 6 (by decide +kernel) (by decide +kernel) (by decide +kernel)) (fun _ _ h => h.elim) (fun _ _ _ _ => rfl)
 simp only [if_neg h7]
 by_cases h8 : t.text.toList = sHas.toList
 ·simp only [if_pos h8]
  exact CLaw.map (fun n : Tok => ((⟨12, n.text, ⟨#[]⟩, [], [], [], [], t.place⟩, 1) : CD)) (zgo hend (toks := toks) (i0 := i0) (i := i) 6 (by decide +kernel) (by decide +kernel) (by decide +kernel)) (fun _ _ h => h.elim) (fun _ _ _ _ => rfl)
 ·rcases zla ho with h | h | h | h | h | h | h | h <;> contradiction
theorem zph {part : Nat → Option (PR CD)} {kind : Int} {word : ByteArray} : ∀ (k i : Nat) (l : List S60) (d : Nat) (z : CD) (m : Nat) (a : Int), rowL toks part kind word k i l d = some (.ok z m) → l.head?.map (·.f7) = some a → d ≤ z.2 ∧ z.1.f7 = a ∧ (2 ≤ l.length → d + 1 ≤ z.2 ∧ z.2 ≤ 16) := by
 intro k
 induction k with
 | zero => intro i l d z m a h; cases h
 | succ k ih =>
  intro i l d z m a h ha
  unfold rowL at h
  split at h
  ·split at h
   ·cases h
   ·split at h
    ·cases h
    ·cases h
    ·rename_i c j hc
     obtain ⟨h1, h2, h3⟩ := ih j (l ++ [c.1]) (max d c.2) z m a h (by cases l with | nil => cases ha | cons x r => exact ha)
     have hl : 2 ≤ (l ++ [c.1]).length := by cases l with | nil => cases ha | cons x r => simp
     have := h3 hl
     exact ⟨by omega, h2, fun _ => by omega⟩
  ·split at h
   ·obtain ⟨rfl, rfl⟩ := PR.ok.inj (Option.some.inj h)
    exact ⟨Nat.le_refl _, by simpa using ha, fun h2 => by simp at h2⟩
   ·rename_i hl
    unfold zfm at h
    split at h
    ·cases h
    ·obtain ⟨rfl, rfl⟩ := PR.ok.inj (Option.some.inj h)
     refine ⟨by omega, ?_, fun _ => by omega⟩
     rw [ha]; rfl
theorem zkq {part : Nat → Option (PR CD)} {kind : Int} {word : ByteArray} {k c : Nat} {l : List S60} {d : Nat} {toks' : List Tok} (a : Int) (h : (tk toks' c).kind = 8) (ha : l.head?.map (·.f7) = some a) (h2 : 2 ≤ l.length) :
  rowL toks' part kind word (k + 1) c l d = some (if d + 1 > 16 then .bad 91 a else .ok (⟨kind, ⟨#[]⟩, ⟨#[]⟩, [], [], [], l, a⟩, d + 1) c) := by
 unfold rowL
 rw [if_neg (by rw [zcz h]; decide)]
 match l, h2 with
 | x :: y :: r, _ =>
  have e : x.f7 = a := by simpa using ha
  simp only [zfm, List.head?_cons, Option.map_some, Option.getD_some, e]
include hend in
theorem rowL_law {part : List Tok → Nat → Option (PR CD)} {kind : Int} {word : ByteArray} (hw : word.toList ≠ zff.toList) (hP : ∀ i0 i, i0 ≤ i → CLaw toks LeC (HdC toks i) part i0 i) {h0 : Nat} :
  ∀ (k i : Nat) (l : List S60) (d : Nat), h0 < i → l.head?.map (·.f7) = some (tk toks h0).place → CLaw toks LeC (fun x _ => x.1.f7 = (tk toks h0).place) (fun toks i => rowL toks (part toks) kind word k i l d) h0 i := by
 intro k
 induction k with
 | zero => intro i l d _ _ r hr; cases hr
 | succ k ih =>
  intro i l d hi ha r hr
  have hpos : 1 ≤ l.length := by cases l with | nil => cases ha | cons x r => simp
  dsimp only at hr
  by_cases hc : isT (tk toks i) word = true
  ·have hsemi := zes (u := zff) hc hw
   by_cases h32 : l.length = 32
   ·have hr' := hr
    unfold rowL at hr'
    rw [if_pos hc, if_pos h32] at hr'
    obtain rfl := Option.some.inj hr'
    refine ⟨i + 1, by omega, fun hi => hend i hi (zbk hc), zgm.cons hsemi (zgm.nil _ _), fun toks' hu => ?_, .inr ⟨by split <;> simp, rfl, fun toks' hc' => ?_⟩⟩
    ·dsimp only
     unfold rowL
     rw [hu i (by omega), if_pos hc, if_pos h32, hu (i + 1) (by omega)]
    ·dsimp only
     unfold rowL
     rw [hc'.1 i (by omega), if_pos hc, if_pos h32, hc'.2.2]
     have : zeb (tk toks' (i + 1)) = false := by simp [zeb, hc'.2.1]
     rw [this, if_neg (by decide)]
   ·have hr' := hr
    unfold rowL at hr'
    rw [if_pos hc, if_neg h32] at hr'
    cases hp : part toks (i + 1) with
    | none => rw [hp] at hr'; cases hr'
    | some s =>
    rw [hp] at hr'
    have hs := hP (i + 1) (i + 1) (Nat.le_refl _) s hp
    have st : ∀ toks', tk toks' i = tk toks i → rowL toks' (part toks') kind word (k + 1) i l d = match part toks' (i + 1) with
      | none => none
      | some (.bad e p) => some (.bad e p)
      | some (.ok c j) => rowL toks' (part toks') kind word k j (l ++ [c.1]) (max d c.2) := fun toks' e => by
     conv => lhs; unfold rowL
     rw [e, if_pos hc, if_neg h32]
     all_goals (cases part toks' (i + 1) with | none => rfl | some s => cases s <;> rfl)
    have hha : ∀ y : S60, (l ++ [y]).head?.map (·.f7) = some (tk toks h0).place := fun y => by
     cases l with
     | nil => cases ha
     | cons x r => exact ha
    have cutI : ∀ toks', Cut toks toks' i → rowL toks' (part toks') kind word (k + 1) i l d = (match l with | [c] => some (.ok (c, d) i) | _ => some (if d + 1 > 16 then .bad 91 (tk toks h0).place else .ok (⟨kind, ⟨#[]⟩, ⟨#[]⟩, [], [], [], l, (tk toks h0).place⟩, d + 1) i)) := fun toks' hcut => by
     match l, hpos, ha with
     | [x], _, _ =>
      unfold rowL
      rw [if_neg (by rw [zcz hcut.2.1]; decide)]
     | x :: y :: r, _, ha => exact zkq _ hcut.2.1 ha (by simp)
    have cutJ : ∀ c toks', i < c → Cut toks toks' c → ∀ y, part toks' (i + 1) = some (.ok y c) → rowL toks' (part toks') kind word (k + 1) i l d = (match k with | 0 => none | _ + 1 => some (if max d y.2 + 1 > 16 then .bad 91 (tk toks h0).place else .ok (⟨kind, ⟨#[]⟩, ⟨#[]⟩, [], [], [], l ++ [y.1], (tk toks h0).place⟩, max d y.2 + 1) c)) := fun c toks' hic hcut y hy => by
     rw [st toks' (hcut.1 i (by omega)), hy]
     cases k with
     | zero => rfl
     | succ k => exact zkq _ hcut.2.1 (hha y.1) (by simp; omega)
    cases s with
    | bad e p =>
     obtain rfl := Option.some.inj hr'
     obtain ⟨q, h1, hl, h2, h3, h4⟩ := hs
     refine ⟨q, by omega, fun hi => hl (hend i hi (zbk hc)), h2.cons hsemi, fun toks' hu => ?_, ?_⟩
     ·dsimp only
      rw [st toks' (hu i (by omega)), h3 toks' hu]
     ·rcases h4 with ⟨rfl, hh, k1, k2, k3, k4⟩ | ⟨e1, e2, e3⟩
      ·refine .inl ⟨rfl, hh, by omega, k2, k3, fun c toks' a1 a2 hcut => ?_⟩
       dsimp only
       by_cases hci : c = i
       ·subst hci
        rw [cutI toks' hcut]
        match l, hpos with
        | [x], _ => exact .inr (.inr (.inl ⟨_, rfl⟩))
        | x :: y :: r, _ =>
         right; right
         by_cases hd : d + 1 > 16
         ·right
          exact ⟨h0, by omega, by simp only [if_pos hd]⟩
         ·left
          exact ⟨_, by simp only [if_neg hd]; rfl⟩
       ·rcases k4 c toks' (by omega) a2 hcut with h | h | ⟨y, h⟩ | ⟨h', hle, h⟩
        ·left
         rw [st toks' (hcut.1 i (by omega)), h]
        ·right; left
         rw [st toks' (hcut.1 i (by omega)), h]
        ·rw [cutJ c toks' (by omega) hcut y h]
         cases k with
         | zero => exact .inl rfl
         | succ k =>
         right; right
         by_cases hd : max d y.2 + 1 > 16
         ·right
          exact ⟨h0, by omega, by simp only [if_pos hd]⟩
         ·left
          exact ⟨_, by simp only [if_neg hd]; rfl⟩
        ·right; right; right
         refine ⟨h', hle, ?_⟩
         rw [st toks' (hcut.1 i (by omega)), h]
      ·refine .inr ⟨e1, e2, fun toks' hcut => ?_⟩
       dsimp only
       rw [st toks' (hcut.1 i (by omega)), e3 toks' hcut]
    | ok x j =>
     obtain ⟨h1, ⟨hx, hx1, hx2, hx3⟩, hl, h3, h4, h5⟩ := hs
     have hr2 : rowL toks (part toks) kind word k j (l ++ [x.1]) (max d x.2) = some r := hr'
     have := ih j (l ++ [x.1]) (max d x.2) (by omega) (hha x.1) r hr2
     have cutIn : ∀ c toks', i ≤ c → c < j → Cut toks toks' c → rowL toks' (part toks') kind word (k + 1) i l d = some (.bad 90 (tk toks c).place) ∨ ∃ D, D ≤ max d x.2 ∧ ((∃ y : CD, y.2 ≤ D + 1 ∧ y.1.f7 = (tk toks h0).place ∧ rowL toks' (part toks') kind word (k + 1) i l d = some (.ok y c)) ∨ (16 < D + 1 ∧ rowL toks' (part toks') kind word (k + 1) i l d = some (.bad 91 (tk toks h0).place))) := fun c toks' a1 a2 hcut => by
      by_cases hci : c = i
      ·subst hci
       right
       refine ⟨d, by omega, ?_⟩
       rw [cutI toks' hcut]
       match l, hpos, ha with
       | [x0], _, ha => exact .inl ⟨(x0, d), by show d ≤ d + 1; omega, by simpa using ha, rfl⟩
       | x0 :: y0 :: r, _, ha =>
        by_cases hd : d + 1 > 16
        ·exact .inr ⟨hd, by simp only [if_pos hd]⟩
        ·exact .inl ⟨(⟨kind, ⟨#[]⟩, ⟨#[]⟩, [], [], [], x0 :: y0 :: r, (tk toks h0).place⟩, d + 1), Nat.le_refl (d + 1), rfl, by simp only [if_neg hd]⟩
      ·rcases h5 c toks' (by omega) a2 hcut with h | ⟨y, h, hy⟩
       ·left
        rw [st toks' (hcut.1 i (by omega)), h]
       ·right
        have := hy.1
        refine ⟨max d y.2, by omega, ?_⟩
        rw [cutJ c toks' (by omega) hcut y h]
        cases k with
        | zero => cases hr2
        | succ k =>
        by_cases hd : max d y.2 + 1 > 16
        ·exact .inr ⟨hd, by simp only [if_pos hd]⟩
        ·exact .inl ⟨(⟨kind, ⟨#[]⟩, ⟨#[]⟩, [], [], [], l ++ [y.1], (tk toks h0).place⟩, max d y.2 + 1), Nat.le_refl (max d y.2 + 1), rfl, by simp only [if_neg hd]⟩
     cases r with
     | ok z m =>
      obtain ⟨k1, k2, kl, k3, k4, k5⟩ := this
      obtain ⟨o1, o2, o3⟩ := zph _ _ _ _ z m _ hr2 (hha x.1)
      have o3 := o3 (by simp; omega)
      refine ⟨by omega, k2, fun hi => kl (hl (hend i hi (zbk hc))), (h3.cons hsemi).join k3, fun toks' hu => ?_, fun c toks' a1 a2 hcut => ?_⟩
      ·dsimp only
       rw [st toks' (hu.1 i (by omega)), h4 toks' (hu.le k1)]
       exact k4 toks' hu
      ·dsimp only
       by_cases hcj : c < j
       ·rcases cutIn c toks' a1 hcj hcut with h | ⟨D, hD, ⟨y, hy1, hy2, h⟩ | ⟨hd, h⟩⟩
        ·exact .inl h
        ·exact .inr ⟨y, h, by show y.2 ≤ z.2; omega, by rw [hy2]; exact o2.symm⟩
        ·omega
       ·rw [st toks' (hcut.1 i (by omega)), h4 toks' (hcut.upto (by omega))]
        exact k5 c toks' (by omega) a2 hcut
     | bad e p =>
      obtain ⟨q, k1, kl, k2, k3, k4⟩ := this
      refine ⟨q, by omega, fun hi => kl (hl (hend i hi (zbk hc))), (h3.cons hsemi).join k2, fun toks' hu => ?_, ?_⟩
      ·dsimp only
       rw [st toks' (hu i (by omega)), h4 toks' (hu.upto k1)]
       exact k3 toks' hu
      ·rcases k4 with ⟨rfl, hh, l1, l2, l3, l4⟩ | ⟨e1, e2, e3⟩
       ·refine .inl ⟨rfl, hh, l1, l2, l3, fun c toks' a1 a2 hcut => ?_⟩
        dsimp only
        by_cases hcj : c < j
        ·rcases cutIn c toks' a1 hcj hcut with h | ⟨D, hD, ⟨y, hy1, hy2, h⟩ | ⟨hd, h⟩⟩
         ·exact .inr (.inl h)
         ·exact .inr (.inr (.inl ⟨y, h⟩))
         ·exact .inr (.inr (.inr ⟨h0, l1, h⟩))
        ·rw [st toks' (hcut.1 i (by omega)), h4 toks' (hcut.upto (by omega))]
         exact l4 c toks' (by omega) a2 hcut
       ·refine .inr ⟨e1, e2, fun toks' hcut => ?_⟩
        dsimp only
        rw [st toks' (hcut.1 i (by omega)), h4 toks' (hcut.upto k1)]
        exact e3 toks' hcut
  ·-- the row ends here
   have hu0 : ∀ toks', Upto toks toks' i → rowL toks' (part toks') kind word (k + 1) i l d = rowL toks (part toks) kind word (k + 1) i l d := fun toks' hu => by
    have : ¬ isT (tk toks' i) word = true := by
     rcases hu.2 with e | e
     ·rw [e]; exact hc
     ·rw [zcz e]; decide
    unfold rowL
    rw [if_neg this, if_neg hc]
   have hr' := hr
   unfold rowL at hr'
   rw [if_neg hc] at hr'
   match l, hpos, ha with
   | [x], _, ha =>
    obtain rfl := Option.some.inj hr'
    exact ⟨Nat.le_refl _, by simpa using ha, id, zgm.nil _ _, fun toks' hu => (hu0 toks' hu).trans hr, fun c toks' a1 a2 _ => by omega⟩
   | x :: y :: rr, _, ha =>
    have e7 : x.f7 = (tk toks h0).place := by simpa using ha
    have hr' : some (zfm ⟨kind, ⟨#[]⟩, ⟨#[]⟩, [], [], [], x :: y :: rr, x.f7⟩ d i) = some r := hr'
    unfold zfm at hr'
    by_cases hd : d + 1 > 16
    ·rw [if_pos hd] at hr'
     obtain rfl := Option.some.inj hr'
     refine ⟨i, Nat.le_refl _, id, zgm.nil _ _, fun toks' hu => (hu0 toks' (hu.upto (Nat.le_refl _))).trans hr, .inl ⟨rfl, h0, Nat.le_refl _, by omega, e7, fun c toks' a1 a2 hcut => ?_⟩⟩
     right; right; right
     refine ⟨h0, Nat.le_refl _, ?_⟩
     obtain rfl : c = i := by omega
     rw [← e7]
     exact (hu0 toks' (hcut.upto (Nat.le_refl _))).trans hr
    ·rw [if_neg hd] at hr'
     obtain rfl := Option.some.inj hr'
     exact ⟨Nat.le_refl _, e7, id, zgm.nil _ _, fun toks' hu => (hu0 toks' hu).trans hr, fun c toks' a1 a2 _ => by omega⟩
include hend in
theorem zoe {part : List Tok → Nat → Option (PR CD)} {kind : Int} {word : ByteArray} (hw : word.toList ≠ zff.toList) (hP : ∀ i0 i, i0 ≤ i → CLaw toks LeC (HdC toks i) part i0 i) (k : Nat) (hi : i0 ≤ i) : CLaw toks LeC (HdC toks i) (fun toks i => rowP toks (part toks) kind word k i) i0 i := by
 intro r hr
 dsimp only at hr
 have hr' := hr
 unfold rowP at hr'
 cases hp : part toks i with
 | none => rw [hp] at hr'; cases hr'
 | some s =>
 rw [hp] at hr'
 have hs := hP i0 i hi s hp
 have st : ∀ toks', rowP toks' (part toks') kind word k i = match part toks' i with
   | none => none
   | some (.bad e p) => some (.bad e p)
   | some (.ok c j) => rowL toks' (part toks') kind word k j [c.1] c.2 := fun toks' => by
  unfold rowP
  cases part toks' i with | none => rfl | some s => cases s <;> rfl
 have cl : ∀ c toks' (y : CD), (tk toks' c).kind = 8 → rowL toks' (part toks') kind word k c [y.1] y.2 = match k with | 0 => none | _ + 1 => some (.ok y c) := fun c toks' y he => by
  cases k with
  | zero => rfl
  | succ k =>
   unfold rowL
   rw [if_neg (by rw [zcz he]; decide)]
 cases s with
 | bad e p =>
  obtain rfl := Option.some.inj hr'
  obtain ⟨q, h1, hl, h2, h3, h4⟩ := hs
  refine ⟨q, h1, hl, h2, fun toks' hu => ?_, ?_⟩
  ·dsimp only
   rw [st, h3 toks' hu]
  ·rcases h4 with ⟨rfl, hh, k1, k2, k3, k4⟩ | ⟨e1, e2, e3⟩
   ·refine .inl ⟨rfl, hh, k1, k2, k3, fun c toks' a1 a2 hcut => ?_⟩
    dsimp only
    rw [st]
    rcases k4 c toks' a1 a2 hcut with h | h | ⟨y, h⟩ | ⟨h', hle, h⟩
    ·rw [h]; exact .inl rfl
    ·rw [h]; exact .inr (.inl rfl)
    ·rw [h]
     dsimp only
     rw [cl c toks' y hcut.2.1]
     cases k with
     | zero => exact .inl rfl
     | succ k => exact .inr (.inr (.inl ⟨_, rfl⟩))
    ·rw [h]; exact .inr (.inr (.inr ⟨h', hle, rfl⟩))
   ·refine .inr ⟨e1, e2, fun toks' hcut => ?_⟩
    dsimp only
    rw [st, e3 toks' hcut]
 | ok x j =>
  obtain ⟨h1, ⟨hx, hx1, hx2, hx3⟩, hl, h3, h4, h5⟩ := hs
  have hr2 : rowL toks (part toks) kind word k j [x.1] x.2 = some r := hr'
  have hL := rowL_law hend hw hP (h0 := hx) k j [x.1] x.2 hx2 (by simp [hx3]) r hr2
  have cutIn : ∀ c toks', i ≤ c → c < j → Cut toks toks' c → rowP toks' (part toks') kind word k i = some (.bad 90 (tk toks c).place) ∨ ∃ y, rowP toks' (part toks') kind word k i = some (.ok y c) ∧ LeC y x := fun c toks' a1 a2 hcut => by
   rw [st]
   rcases h5 c toks' a1 a2 hcut with h | ⟨y, h, hy⟩
   ·rw [h]; exact .inl rfl
   ·rw [h]
    dsimp only
    rw [cl c toks' y hcut.2.1]
    cases k with
    | zero => cases hr2
    | succ k => exact .inr ⟨y, rfl, hy⟩
  cases r with
  | ok z m =>
   obtain ⟨k1, k2, kl, k3, k4, k5⟩ := hL
   obtain ⟨o1, o2, -⟩ := zph _ _ _ _ z m _ hr2 (by simp; rfl)
   refine ⟨by omega, ⟨hx, hx1, by omega, k2⟩, fun hi => kl (hl hi), h3.join k3, fun toks' hu => ?_, fun c toks' a1 a2 hcut => ?_⟩
   ·dsimp only
    rw [st, h4 toks' (hu.le k1)]
    exact k4 toks' hu
   ·dsimp only
    by_cases hcj : c < j
    ·exact (cutIn c toks' a1 hcj hcut).imp id fun ⟨y, h, hy⟩ => ⟨y, h, by have := hy.1; show y.2 ≤ z.2; omega, hy.2.trans o2.symm⟩
    ·rw [st, h4 toks' (hcut.upto (by omega))]
     exact k5 c toks' (by omega) a2 hcut
  | bad e p =>
   obtain ⟨q, k1, kl, k2, k3, k4⟩ := hL
   refine ⟨q, by omega, fun hi => kl (hl hi), h3.join k2, fun toks' hu => ?_, ?_⟩
   ·dsimp only
    rw [st, h4 toks' (hu.upto k1)]
    exact k3 toks' hu
   ·rcases k4 with ⟨rfl, hh, l1, l2, l3, l4⟩ | ⟨e1, e2, e3⟩
    ·refine .inl ⟨rfl, hh, by omega, l2, l3, fun c toks' a1 a2 hcut => ?_⟩
     dsimp only
     by_cases hcj : c < j
     ·exact .inr ((cutIn c toks' a1 hcj hcut).imp id fun ⟨y, h, _⟩ => .inl ⟨y, h⟩)
     ·rw [st, h4 toks' (hcut.upto (by omega))]
      exact l4 c toks' (by omega) a2 hcut
    ·refine .inr ⟨e1, e2, fun toks' hcut => ?_⟩
     dsimp only
     rw [st, h4 toks' (hcut.upto k1)]
     exact e3 toks' hcut
end
end
section
section
variable {toks : List Tok} (hend : ∀ k, k < toks.length → (tk toks k).kind ≠ 8 → k + 1 < toks.length) {i0 i : Nat}
theorem deep_law {G : List Tok → Nat → Option (PR CD)} {H : CD → Nat → Prop} {h0 j0 : Nat} (h00 : h0 ≤ j0) (hG : CLaw toks LeC H G h0 j0) (mk : CD → S60) (hmk : ∀ c, (mk c).f7 = (tk toks h0).place) :
  CLaw toks LeC (fun x _ => x.1.f7 = (tk toks h0).place) (zcl G fun c _ j => some (zfm (mk c) c.2 j)) h0 j0 := by
 intro r hr
 cases hg : G toks j0 with
 | none => unfold zcl at hr; rw [hg] at hr; cases hr
 | some s =>
 have hs := hG s hg
 have dp : ∀ (c : CD) (j : Nat), zfm (mk c) c.2 j = if c.2 + 1 > 16 then .bad 91 (tk toks h0).place else .ok (mk c, c.2 + 1) j := fun c j => by rw [zfm, hmk]
 cases s with
 | bad e p =>
  rw [zbu hg] at hr
  obtain rfl := Option.some.inj hr
  obtain ⟨q, h1, hl, h2, h3, h4⟩ := hs
  refine ⟨q, h1, hl, h2, fun toks' hu => zbu (h3 toks' hu), ?_⟩
  rcases h4 with ⟨rfl, hh, k1, k2, k3, k4⟩ | ⟨e1, e2, e3⟩
  ·refine .inl ⟨rfl, hh, k1, k2, k3, fun c toks' a1 a2 hcut => ?_⟩
   rcases k4 c toks' a1 a2 hcut with h | h | ⟨y, h⟩ | ⟨h', hle, h⟩
   ·left; unfold zcl; rw [h]
   ·exact .inr (.inl (zbu h))
   ·rw [zcb h, dp]
    right; right
    by_cases hd : y.2 + 1 > 16
    ·rw [if_pos hd]; exact .inr ⟨h0, k1, rfl⟩
    ·rw [if_neg hd]; exact .inl ⟨_, rfl⟩
   ·exact .inr (.inr (.inr ⟨h', hle, zbu h⟩))
  ·exact .inr ⟨e1, e2, fun toks' hcut => zbu (e3 toks' hcut)⟩
 | ok x j =>
  rw [zcb hg, dp] at hr
  obtain ⟨h1, h2, hl, h3, h4, h5⟩ := hs
  by_cases hd : x.2 + 1 > 16
  ·rw [if_pos hd] at hr
   obtain rfl := Option.some.inj hr
   have same : ∀ toks', Upto toks toks' j → zcl G (fun c _ j => some (zfm (mk c) c.2 j)) toks' j0 = some (.bad 91 (tk toks h0).place) := fun toks' hu => by
    rw [zcb (h4 toks' hu), dp, if_pos hd]
   refine ⟨j, h1, hl, h3, fun toks' hu => same toks' (hu.upto (Nat.le_refl _)), .inl ⟨rfl, h0, Nat.le_refl _, by omega, rfl, fun c toks' a1 a2 hcut => ?_⟩⟩
   by_cases hcj : c < j
   ·rcases h5 c toks' a1 hcj hcut with h | ⟨y, h, hy⟩
    ·exact .inr (.inl (zbu h))
    ·rw [zcb h, dp]
     right; right
     by_cases hd : y.2 + 1 > 16
     ·rw [if_pos hd]; exact .inr ⟨h0, Nat.le_refl _, rfl⟩
     ·rw [if_neg hd]; exact .inl ⟨_, rfl⟩
   ·exact .inr (.inr (.inr ⟨h0, Nat.le_refl _, same toks' (hcut.upto (by omega))⟩))
  ·rw [if_neg hd] at hr
   obtain rfl := Option.some.inj hr
   refine ⟨h1, hmk x, hl, h3, fun toks' hu => by rw [zcb (h4 toks' hu), dp, if_neg hd], fun c toks' a1 a2 hcut => ?_⟩
   rcases h5 c toks' a1 a2 hcut with h | ⟨y, h, hy⟩
   ·exact .inl (zbu h)
   ·right
    have := hy.1
    rw [zcb h, dp, if_neg (by omega)]
    exact ⟨_, rfl, by show y.2 + 1 ≤ x.2 + 1; omega, (hmk y).trans (hmk x).symm⟩
theorem condP_end (k : Nat) {c : Nat} {toks' : List Tok} (h : (tk toks' c).kind = 8) : zbl toks' (k + 1) 3 c = some (.bad 90 (tk toks' c).place) := by
 rw [zbl, zcz h, if_neg (by decide), if_neg (by omega), if_neg (by omega)]
include hend in
theorem condP_law : ∀ (k lvl i0 i : Nat), i0 ≤ i → CLaw toks LeC (HdC toks i) (fun toks i => zbl toks k lvl i) i0 i := by
 intro k
 induction k with
 | zero => intro lvl i0 i hi r hr; cases hr
 | succ k ih =>
  intro lvl i0 i hi
  match lvl with
  | 0 =>
   have e : (fun toks i => zbl toks (k + 1) 0 i) = fun toks i => rowP toks (zbl toks k 1) 6 sOr k i := by funext toks i; rw [zbl]
   rw [e]
   exact zoe hend (part := fun toks => zbl toks k 1) (by decide +kernel) (fun i0 i hi => ih 1 i0 i hi) k hi
  | 1 =>
   have e : (fun toks i => zbl toks (k + 1) 1 i) = fun toks i => rowP toks (zbl toks k 2) 5 sAnd k i := by funext toks i; rw [zbl]
   rw [e]
   exact zoe hend (part := fun toks => zbl toks k 2) (by decide +kernel) (fun i0 i hi => ih 2 i0 i hi) k hi
  | 2 =>
   have e : (fun toks i => zbl toks (k + 1) 2 i) = fun toks i => if isT (tk toks i) sNot = true then (fun t => zcl (fun toks i => zbl toks k 2 i) fun (c : CD) _ j => some (zfm ⟨4, ⟨#[]⟩, ⟨#[]⟩, [], [], [], [c.1], t.place⟩ c.2 j)) (tk toks i) toks (i + 1) else (fun toks i => zbl toks k 3 i) toks i := by
    funext toks i
    rw [zbl]
    dsimp only [zcl]
    cases zbl toks k 2 (i + 1) with
    | none => rfl
    | some s => cases s <;> rfl
   rw [e]
   by_cases hn : isT (tk toks i) sNot = true
   ·cases k with
    | zero =>
     intro r hr
     dsimp only at hr
     rw [if_pos hn] at hr
     cases hr
    | succ k =>
     refine CLaw.ite_pos hend (fun t => isT t sNot = true) (fun t => zcl (fun toks i => zbl toks (k + 1) 2 i) fun (c : CD) _ j => some (zfm ⟨4, ⟨#[]⟩, ⟨#[]⟩, [], [], [], [c.1], t.place⟩ c.2 j)) (fun t h => by rw [zcz h]; decide) hn (zes hn (by decide +kernel)) (H1 := fun x _ => x.1.f7 = (tk toks i).place) ?_ (fun x j hij h => ⟨i, Nat.le_refl _, by omega, h⟩) fun toks' he => condP_end k he
     exact (deep_law (by omega : i ≤ i + 1) (ih 2 i (i + 1) (by omega)) (fun c => ⟨4, ⟨#[]⟩, ⟨#[]⟩, [], [], [], [c.1], (tk toks i).place⟩) (fun c => rfl)).mono (fun _ _ h => h) (fun _ _ _ h => h) hi
   ·exact CLaw.ite_neg (fun t => isT t sNot = true) (fun toks i => (fun t => zcl (fun toks i => zbl toks k 2 i) fun (c : CD) _ j => some (zfm ⟨4, ⟨#[]⟩, ⟨#[]⟩, [], [], [], [c.1], t.place⟩ c.2 j)) (tk toks i) toks (i + 1)) (fun t h => by rw [zcz h]; decide) hn (ih 3 i0 i hi)
  | n + 3 =>
   have e : (fun toks i => zbl toks (k + 1) (n + 3) i) = fun toks i => if isT (tk toks i) zey = true then (fun _ => zcl (fun toks i => zbl toks k 0 i) fun (c : CD) toks j => some ((zby toks zic j).bind fun _ m => .ok c m)) (tk toks i) toks (i + 1) else (fun toks i => if (tk toks i).kind = 2 then (fun t (_ : List Tok) j => some (.ok (⟨3, t.text, ⟨#[]⟩, [], [], [], [], t.place⟩, 1) j)) (tk toks i) toks (i + 1) else (fun toks i => if (tk toks i).kind = 1 ∧ isOp (tk toks i) = true then (fun t toks j => zgv toks t k j) (tk toks i) toks (i + 1) else (fun toks i => some (.bad 90 (tk toks i).place)) toks i) toks i) toks i := by
    funext toks i
    rw [zbl]
    dsimp only [zcl]
    cases zbl toks k 0 (i + 1) with
    | none => rfl
    | some s => cases s <;> rfl
   rw [e]
   have hA3 : ∀ toks', (tk toks' i).kind = 8 → (fun toks i => if (tk toks i).kind = 1 ∧ isOp (tk toks i) = true then (fun t toks j => zgv toks t k j) (tk toks i) toks (i + 1) else (fun toks i => some (.bad 90 (tk toks i).place)) toks i) toks' i = some (.bad 90 (tk toks' i).place) := fun toks' he => by
    dsimp only
    rw [if_neg (by omega)]
   have hA2 : ∀ toks', (tk toks' i).kind = 8 → (fun toks i => if (tk toks i).kind = 2 then (fun t (_ : List Tok) j => some (.ok ((⟨3, t.text, ⟨#[]⟩, [], [], [], [], t.place⟩, 1) : CD) j)) (tk toks i) toks (i + 1) else (fun toks i => if (tk toks i).kind = 1 ∧ isOp (tk toks i) = true then (fun t toks j => zgv toks t k j) (tk toks i) toks (i + 1) else (fun toks i => some (.bad 90 (tk toks i).place)) toks i) toks i) toks' i = some (.bad 90 (tk toks' i).place) := fun toks' he => by
    dsimp only
    rw [if_neg (by omega), if_neg (by omega)]
   by_cases hb : isT (tk toks i) zey = true
   ·refine CLaw.ite_pos hend (fun t => isT t zey = true) (fun _ => zcl (fun toks i => zbl toks k 0 i) fun (c : CD) toks j => some ((zby toks zic j).bind fun _ m => .ok c m)) (fun t h => by rw [zcz h]; decide) hb (zes hb (by decide +kernel)) (H1 := HdC toks (i + 1)) ?_ (fun x j hij ⟨h, h1, h2, h3⟩ => ⟨h, by omega, h2, h3⟩) hA2
    exact CLaw.bind (ih 0 i0 (i + 1) (by omega)) (fun x j _ ⟨h, h1, h2, h3⟩ => CLaw.map (fun _ => x) (zmj hend zic (by decide +kernel)) (fun _ _ h => h.elim) (fun _ m hm _ => ⟨h, h1, by omega, h3⟩)) fun c m toks' he => .inl (by rw [zfo _ he]; rfl)
   refine CLaw.ite_neg (fun t => isT t zey = true) (fun toks i => (fun _ => zcl (fun toks i => zbl toks k 0 i) fun (c : CD) toks j => some ((zby toks zic j).bind fun _ m => .ok c m)) (tk toks i) toks (i + 1)) (fun t h => by rw [zcz h]; decide) hb ?_
   by_cases h2 : (tk toks i).kind = 2
   ·exact CLaw.ite_pos hend (fun t => t.kind = 2) (fun t (_ : List Tok) j => some (.ok ((⟨3, t.text, ⟨#[]⟩, [], [], [], [], t.place⟩, 1) : CD) j)) (fun t h => by omega) h2 (zgr (by omega) (by omega)) (H1 := fun x _ => x.1.f7 = (tk toks i).place) (CLaw.pure _ rfl) (fun x j hij h => ⟨i, Nat.le_refl _, by omega, h⟩) hA3
   refine CLaw.ite_neg (fun t => t.kind = 2) (fun toks i => (fun t (_ : List Tok) j => some (.ok ((⟨3, t.text, ⟨#[]⟩, [], [], [], [], t.place⟩, 1) : CD) j)) (tk toks i) toks (i + 1)) (fun t h => by omega) h2 ?_
   by_cases h1 : (tk toks i).kind = 1 ∧ isOp (tk toks i) = true
   ·have hS : isT (tk toks i) zff = false := by
     cases hb : isT (tk toks i) zff with
     | false => rfl
     | true =>
      have ht := zma hb
      rcases zla h1.2 with h | h | h | h | h | h | h | h <;> exact absurd (ht.symm.trans h) (by decide +kernel)
    exact CLaw.ite_pos hend (fun t => t.kind = 1 ∧ isOp t = true) (fun t toks j => zgv toks t k j) (fun t h => by omega) h1 hS (H1 := fun x _ => x.1.f7 = (tk toks i).place) (atomP_law hend (tk toks i) h1.2 k) (fun x j hij h => ⟨i, Nat.le_refl _, by omega, h⟩) fun _ _ => rfl
   ·exact CLaw.ite_neg (fun t => t.kind = 1 ∧ isOp t = true) (fun toks i => (fun t toks j => zgv toks t k j) (tk toks i) toks (i + 1)) (fun t h => by omega) h1 CLaw.fail
end
end
section
section
variable {toks : List Tok}
theorem listL_mono {β : Type} {elem : Nat → PR β} {want : Int} : ∀ (k i : Nat) (acc : List β) (r : PR (List β)) (k' : Nat), k ≤ k' → zfv toks elem want k i acc = some r → zfv toks elem want k' i acc = some r := by
 intro k
 induction k with
 | zero => intro i acc r k' _ h; cases h
 | succ k ih =>
  intro i acc r k' hk h
  obtain ⟨k', rfl⟩ : ∃ m, k' = m + 1 := ⟨k' - 1, by omega⟩
  unfold zfv at h ⊢
  split at h
  ·rename_i hc; rw [if_pos hc]; exact h
  ·rename_i hc
   rw [if_neg hc]
   split at h
   ·exact h
   ·split at h
    ·rename_i hc2; rw [if_pos hc2]; exact ih _ _ _ _ (by omega) h
    ·rename_i hc2; rw [if_neg hc2]; exact h
theorem zhv {β : Type} {elem : Nat → PR β} {want : Int} {k i k' : Nat} {r : PR (List β)} (hk : k ≤ k') (h : zgl toks elem want k i = some r) : zgl toks elem want k' i = some r := by
 unfold zgl at h ⊢
 split at h
 ·exact h
 ·split at h
  ·exact h
  ·exact listL_mono _ _ _ _ _ hk h
theorem atomP_mono {t : Tok} {k i k' : Nat} {r : PR CD} (hk : k ≤ k') (h : zgv toks t k i = some r) : zgv toks t k' i = some r := by
 unfold zgv at h ⊢
 by_cases h1 : t.text.toList = zqh.toList
 ·simp only [if_pos h1] at h ⊢; exact h
 simp only [if_neg h1] at h ⊢
 by_cases h2 : t.text.toList = znz.toList
 ·simp only [if_pos h2] at h ⊢; exact h
 simp only [if_neg h2] at h ⊢
 by_cases h3 : t.text.toList = zqk.toList
 ·simp only [if_pos h3] at h ⊢
  obtain ⟨s, hs, rfl⟩ := Option.map_eq_some_iff.1 h
  rw [zhv hk hs]; rfl
 simp only [if_neg h3] at h ⊢
 by_cases h4 : t.text.toList = zqi.toList
 ·simp only [if_pos h4] at h ⊢
  obtain ⟨s, hs, rfl⟩ := Option.map_eq_some_iff.1 h
  rw [zhv hk hs]; rfl
 simp only [if_neg h4] at h ⊢
 by_cases h5 : t.text.toList = zlm.toList
 ·simp only [if_pos h5] at h ⊢
  obtain ⟨s, hs, rfl⟩ := Option.map_eq_some_iff.1 h
  rw [zhv hk hs]; rfl
 simp only [if_neg h5] at h ⊢
 exact h
theorem rowL_mono {part part' : Nat → Option (PR CD)} {kind : Int} {word : ByteArray} (hp : ∀ i r, part i = some r → part' i = some r) : ∀ (k i : Nat) (l : List S60) (d : Nat) (r : PR CD) (k' : Nat), k ≤ k' → rowL toks part kind word k i l d = some r → rowL toks part' kind word k' i l d = some r := by
 intro k
 induction k with
 | zero => intro i l d r k' _ h; cases h
 | succ k ih =>
  intro i l d r k' hk h
  obtain ⟨k', rfl⟩ : ∃ m, k' = m + 1 := ⟨k' - 1, by omega⟩
  unfold rowL at h ⊢
  split at h
  ·rename_i hc
   rw [if_pos hc]
   split at h
   ·rename_i h32; rw [if_pos h32]; exact h
   ·rename_i h32
    rw [if_neg h32]
    cases hq : part (i + 1) with
    | none => rw [hq] at h; cases h
    | some s =>
     rw [hq] at h
     rw [hp _ _ hq]
     cases s with
     | bad e p => exact h
     | ok c j => exact ih _ _ _ _ _ (by omega) h
  ·rename_i hc
   rw [if_neg hc]
   exact h
theorem zmt {part part' : Nat → Option (PR CD)} {kind : Int} {word : ByteArray} (hp : ∀ i r, part i = some r → part' i = some r) {k i k' : Nat} {r : PR CD} (hk : k ≤ k') (h : rowP toks part kind word k i = some r) : rowP toks part' kind word k' i = some r := by
 unfold rowP at h ⊢
 cases hq : part i with
 | none => rw [hq] at h; cases h
 | some s =>
  rw [hq] at h
  rw [hp _ _ hq]
  cases s with
  | bad e p => exact h
  | ok c j => exact rowL_mono hp _ _ _ _ _ _ hk h
theorem condP_mono : ∀ (k lvl i : Nat) (r : PR CD) (k' : Nat), k ≤ k' → zbl toks k lvl i = some r → zbl toks k' lvl i = some r := by
 intro k
 induction k with
 | zero => intro lvl i r k' _ h; cases h
 | succ k ih =>
  intro lvl i r k' hk h
  obtain ⟨k', rfl⟩ : ∃ m, k' = m + 1 := ⟨k' - 1, by omega⟩
  match lvl with
  | 0 => unfold zbl at h ⊢; exact zmt (fun i r h => ih _ _ _ _ (by omega) h) (by omega) h
  | 1 => unfold zbl at h ⊢; exact zmt (fun i r h => ih _ _ _ _ (by omega) h) (by omega) h
  | 2 =>
   unfold zbl at h ⊢
   split at h
   ·rename_i hc
    rw [if_pos hc]
    cases hq : zbl toks k 2 (i + 1) with
    | none => rw [hq] at h; cases h
    | some s =>
     rw [hq] at h
     rw [ih _ _ _ k' (by omega) hq]
     exact h
   ·rename_i hc
    rw [if_neg hc]
    exact ih _ _ _ _ (by omega) h
  | n + 3 =>
   unfold zbl at h ⊢
   split at h
   ·rename_i hc
    rw [if_pos hc]
    cases hq : zbl toks k 0 (i + 1) with
    | none => rw [hq] at h; cases h
    | some s =>
     rw [hq] at h
     rw [ih _ _ _ k' (by omega) hq]
     exact h
   ·rename_i hc
    rw [if_neg hc]
    split at h
    ·rename_i h2; rw [if_pos h2]; exact h
    ·rename_i h2
     rw [if_neg h2]
     split at h
     ·rename_i h1; rw [if_pos h1]; exact atomP_mono (by omega) h
     ·rename_i h1; rw [if_neg h1]; exact h
theorem itemP_mono {k n i k' : Nat} {r : PR S62} (hk : k ≤ k') (h : zdx toks k n i = some r) : zdx toks k' n i = some r := by
 unfold zdx at h ⊢
 split at h
 ·exact h
 ·rename_i kd h1
  split at h
  ·rename_i hn; rw [if_pos hn]; exact h
  ·rename_i hn
   rw [if_neg hn]
   split at h
   ·exact h
   ·split at h
    ·exact h
    ·rename_i m _
     cases hq : zbl toks k 0 m with
     | none => rw [hq] at h; cases h
     | some s =>
      rw [hq] at h
      rw [condP_mono _ _ _ _ k' hk hq]
      exact h
theorem zjt {k k' : Nat} (hk : k ≤ k') : ∀ (f i : Nat) (acc : List S62) (r : PR (List S62)) (f' : Nat), f ≤ f' → zcm toks k f i acc = some r → zcm toks k' f' i acc = some r := by
 intro f
 induction f with
 | zero => intro i acc r f' _ h; cases h
 | succ f ih =>
  intro i acc r f' hf h
  obtain ⟨f', rfl⟩ : ∃ m, f' = m + 1 := ⟨f' - 1, by omega⟩
  unfold zcm at h ⊢
  split at h
  ·rename_i h8; rw [if_pos h8]; exact h
  ·rename_i h8
   rw [if_neg h8]
   cases hq : zdx toks k acc.length i with
   | none => rw [hq] at h; cases h
   | some s =>
    rw [hq] at h
    rw [itemP_mono hk hq]
    cases s with
    | bad e p => exact h
    | ok x j => exact ih _ _ _ _ (by omega) h
theorem policyP_of {toks : List Tok} {r r' : PR (List S62)} {k f : Nat} (h : zlq toks = some r) (h' : zcm toks k f 0 [] = some r') : r = r' := by
 have h1 := zjt (toks := toks) (k := 5 * toks.length + 4) (k' := max (5 * toks.length + 4) k) (by omega) _ _ _ _ (max (toks.length + 1) f) (by omega) h
 have h2 := zjt (toks := toks) (k := k) (k' := max (5 * toks.length + 4) k) (by omega) _ _ _ _ (max (toks.length + 1) f) (by omega) h'
 exact Option.some.inj (h1.symm.trans h2)
variable (hend : ∀ k, k < toks.length → (tk toks k).kind ≠ 8 → k + 1 < toks.length)
def znt (kd : Int) (k : Nat) : List Tok → Nat → Option (PR (Tok × CD)) :=
 zcl (fun toks i => some (ofP toks 2 i)) fun nm => zcl (fun toks i => some (zby toks (if kd = 1 then sEq else znl) i)) fun _ toks m => (zbl toks k 0 m).map fun r => r.bind fun c j => .ok (nm, c) j
theorem zly (k n : Nat) (toks : List Tok) (i : Nat) : zdx toks k n i = match (if (tk toks i).kind = 1 then zjs (tk toks i) else none) with
 | none => some (.bad 90 (tk toks i).place)
 | some kd => if n = 100 then some (.bad 92 (tk toks i).place)
  else zcl (znt kd k) (fun c tl q => some ((zby tl zff q).bind fun _ r => .ok ⟨kd, c.1.text, c.2.1, (tk toks i).place⟩ r)) toks (i + 1) := by
 unfold zdx
 cases (if (tk toks i).kind = 1 then zjs (tk toks i) else none) with
 | none => rfl
 | some kd =>
  dsimp only
  by_cases hn : n = 100
  ·rw [if_pos hn, if_pos hn]
  ·rw [if_neg hn, if_neg hn]
   unfold znt zcl
   dsimp only
   cases ofP toks 2 (i + 1) with
   | bad e p => rfl
   | ok nm j =>
    dsimp only
    cases zby toks (if kd = 1 then sEq else znl) j with
    | bad e p => rfl
    | ok _ m =>
     dsimp only
     cases zbl toks k 0 m with
     | none => rfl
     | some s => cases s <;> rfl
include hend in
theorem itemG_law (kd : Int) (k i : Nat) : CLaw toks zil AnyH (znt kd k) i i := by
 unfold znt
 refine zpo hend 2 (by decide) (by decide) (by decide) fun _ => zfn hend _ (by split <;> decide +kernel) fun _ => ?_
 exact (CLaw.map (R' := zil) (H' := AnyH) (fun c => ((tk toks i), c)) (condP_law hend k 0 i (i + 1 + 1) (by omega)) (fun _ _ _ => trivial) (fun _ _ _ _ => trivial))
def IBad {α : Type} (toks : List Tok) (G : List Tok → Nat → Option (PR α)) (fine : List Tok → Prop) (i : Nat) (e p : Int) : Prop :=
 ∃ q, i ≤ q ∧ (i < toks.length → q < toks.length) ∧ (∀ toks', Agr toks toks' q → G toks' i = some (.bad e p)) ∧
  ((e = 91 ∧ ∃ h, i < h ∧ h ≤ q ∧ p = (tk toks h).place ∧ zgm toks h q ∧ ∀ c toks', h ≤ c → c ≤ q → Cut toks toks' c →
    G toks' i = none ∨ (∃ m, G toks' i = some (.bad 90 m)) ∨ ∃ h', h' ≤ h ∧ G toks' i = some (.bad 91 (tk toks h').place)) ∨
   ((e = 90 ∨ e = 92) ∧ p = (tk toks q).place ∧ ∀ toks', Cut toks toks' q → fine toks' ∨ G toks' i = some (.bad 90 p)))
theorem kindS_word {t : Tok} {kd : Int} (h : (if t.kind = 1 then zjs t else none) = some kd) : t.kind = 1 := by
 by_cases h1 : t.kind = 1
 ·exact h1
 ·rw [if_neg h1] at h; cases h
include hend in
theorem itemP_law (k n i : Nat) : (∀ x j, zdx toks k n i = some (.ok x j) → i < j ∧ (i < toks.length → j < toks.length) ∧ ∀ toks', Upto toks toks' j → zdx toks' k n i = some (.ok x j)) ∧
  ∀ e p, zdx toks k n i = some (.bad e p) → IBad toks (fun toks i => zdx toks k n i) (fun toks' => (tk toks' i).kind = 8) i e p := by
 have st : ∀ toks', tk toks' i = tk toks i → ∀ kd, (if (tk toks i).kind = 1 then zjs (tk toks i) else none) = some kd → n ≠ 100 → zdx toks' k n i = zcl (znt kd k) (fun c tl q => some ((zby tl zff q).bind fun _ r => .ok ⟨kd, c.1.text, c.2.1, (tk toks' i).place⟩ r)) toks' (i + 1) := fun toks' e kd hkd hn => by
  rw [zly, e, hkd]
  dsimp only
  rw [if_neg hn]
 have bad0 : ∀ e p, (∀ toks', tk toks' i = tk toks i → zdx toks' k n i = some (.bad e p)) → (e = 90 ∨ e = 92) → p = (tk toks i).place → IBad toks (fun toks i => zdx toks k n i) (fun toks' => (tk toks' i).kind = 8) i e p := fun e p h he hp =>
  ⟨i, Nat.le_refl _, id, fun toks' hu => h toks' (hu i (Nat.le_refl _)), .inr ⟨he, hp, fun toks' hc => .inl hc.2.1⟩⟩
 cases hkd : (if (tk toks i).kind = 1 then zjs (tk toks i) else none) with
 | none =>
  have h0 : ∀ toks', tk toks' i = tk toks i → zdx toks' k n i = some (.bad 90 (tk toks i).place) := fun toks' e => by
   rw [zly, e, hkd]
  refine ⟨fun x j h => ?_, fun e p h => ?_⟩
  ·rw [h0 toks rfl] at h; cases h
  ·rw [h0 toks rfl] at h
   obtain ⟨rfl, rfl⟩ := PR.bad.inj (Option.some.inj h)
   exact bad0 _ _ h0 (.inl rfl) rfl
 | some kd =>
  have hw := kindS_word hkd
  by_cases hn : n = 100
  ·have h0 : ∀ toks', tk toks' i = tk toks i → zdx toks' k n i = some (.bad 92 (tk toks i).place) := fun toks' e => by
    rw [zly, e, hkd]
    dsimp only
    rw [if_pos hn]
   refine ⟨fun x j h => ?_, fun e p h => ?_⟩
   ·rw [h0 toks rfl] at h; cases h
   ·rw [h0 toks rfl] at h
    obtain ⟨rfl, rfl⟩ := PR.bad.inj (Option.some.inj h)
    exact bad0 _ _ h0 (.inr rfl) rfl
  ·have hG := itemG_law hend kd k (i + 1)
   have hi1 : i < toks.length → i + 1 < toks.length := fun hi => hend i hi (by omega)
   refine ⟨fun x j h => ?_, fun e p h => ?_⟩
   ·rw [st toks rfl kd hkd hn] at h
    cases hg : znt kd k toks (i + 1) with
    | none => unfold zcl at h; rw [hg] at h; cases h
    | some s =>
     have hs := hG s hg
     cases s with
     | bad e p => rw [zbu hg] at h; cases h
     | ok c q =>
      rw [zcb hg] at h
      obtain ⟨h1, -, hl, -, h4, -⟩ := hs
      unfold zby at h
      by_cases hs : isT (tk toks q) zff = true
      ·rw [if_pos hs] at h
       obtain ⟨rfl, rfl⟩ := PR.ok.inj (Option.some.inj h)
       refine ⟨by omega, fun hi => hend q (hl (hi1 hi)) (zbk hs), fun toks' hu => ?_⟩
       rw [st toks' (hu.1 i (by omega)) kd hkd hn, zcb (h4 toks' (hu.le (by omega)))]
       unfold zby
       rw [hu.1 q (by omega), if_pos hs, hu.1 i (by omega)]
       rfl
      ·rw [if_neg hs] at h; cases h
   ·rw [st toks rfl kd hkd hn] at h
    cases hg : znt kd k toks (i + 1) with
    | none => unfold zcl at h; rw [hg] at h; cases h
    | some s =>
     have hs := hG s hg
     cases s with
     | bad e' p' =>
      rw [zbu hg] at h
      obtain ⟨rfl, rfl⟩ := PR.bad.inj (Option.some.inj h)
      obtain ⟨q, h1, hl, h2, h3, h4⟩ := hs
      refine ⟨q, by omega, fun hi => hl (hi1 hi), fun toks' hu => ?_, ?_⟩
      ·dsimp only
       rw [st toks' (hu i (by omega)) kd hkd hn, zbu (h3 toks' hu)]
      ·rcases h4 with ⟨rfl, hh, k1, k2, k3, k4⟩ | ⟨e1, e2, e3⟩
       ·refine .inl ⟨rfl, hh, by omega, k2, k3, fun t ht ht' => h2 t (by omega) ht', fun c toks' a1 a2 hcut => ?_⟩
        dsimp only
        rw [st toks' (hcut.1 i (by omega)) kd hkd hn]
        rcases k4 c toks' (by omega) a2 hcut with h | h | ⟨y, h⟩ | ⟨h', hle, h⟩
        ·left; unfold zcl; rw [h]
        ·exact .inr (.inl ⟨_, zbu h⟩)
        ·right; left
         rw [zcb h, zfo _ hcut.2.1]
         exact ⟨_, rfl⟩
        ·exact .inr (.inr ⟨h', hle, zbu h⟩)
       ·refine .inr ⟨e1, e2, fun toks' hcut => .inr ?_⟩
        dsimp only
        rw [st toks' (hcut.1 i (by omega)) kd hkd hn, zbu (e3 toks' hcut)]
     | ok c q =>
      rw [zcb hg] at h
      obtain ⟨h1, -, hl, -, h4, -⟩ := hs
      unfold zby at h
      by_cases hs : isT (tk toks q) zff = true
      ·rw [if_pos hs] at h; cases h
      ·rw [if_neg hs] at h
       obtain ⟨rfl, rfl⟩ := PR.bad.inj (Option.some.inj h)
       refine ⟨q, by omega, fun hi => hl (hi1 hi), fun toks' hu => ?_, .inr ⟨.inl rfl, rfl, fun toks' hcut => .inr ?_⟩⟩
       ·dsimp only
        rw [st toks' (hu i (by omega)) kd hkd hn, zcb (h4 toks' (hu.upto (Nat.le_refl _)))]
        unfold zby
        rw [hu q (Nat.le_refl _), if_neg hs]
        rfl
       ·dsimp only
        rw [st toks' (hcut.1 i (by omega)) kd hkd hn, zcb (h4 toks' (hcut.upto (Nat.le_refl _))), zfo _ hcut.2.1, hcut.2.2]
        rfl
include hend in
theorem itemsP_law (k : Nat) : ∀ (f i : Nat) (acc : List S62) (e p : Int), zcm toks k f i acc = some (.bad e p) →
  ∃ q, i ≤ q ∧ (i < toks.length → q < toks.length) ∧ (∀ toks', Agr toks toks' q → zcm toks' k f i acc = some (.bad e p)) ∧
  ((e = 91 ∧ ∃ h, i ≤ h ∧ h ≤ q ∧ p = (tk toks h).place ∧ zgm toks h q ∧ ∀ c toks', h ≤ c → c ≤ q → Cut toks toks' c →
    zcm toks' k f i acc = none ∨ (∃ m, zcm toks' k f i acc = some (.bad 90 m)) ∨ ∃ h', h' ≤ h ∧ zcm toks' k f i acc = some (.bad 91 (tk toks h').place)) ∨
   ((e = 90 ∨ e = 92) ∧ p = (tk toks q).place ∧ ∀ toks', Cut toks toks' q → (∃ x j, zcm toks' k f i acc = some (.ok x j)) ∨ zcm toks' k f i acc = some (.bad 90 p))) := by
 intro f
 induction f with
 | zero => intro i acc e p h; cases h
 | succ f ih =>
  intro i acc e p h
  unfold zcm at h
  by_cases h8 : (tk toks i).kind = 8
  ·rw [if_pos h8] at h; cases h
  ·rw [if_neg h8] at h
   obtain ⟨L1, L2⟩ := itemP_law hend k acc.length i
   have st : ∀ toks', tk toks' i = tk toks i → zcm toks' k (f + 1) i acc = match zdx toks' k acc.length i with
     | none => none
     | some (.bad e p) => some (.bad e p)
     | some (.ok x j) => zcm toks' k f j (acc ++ [x]) := fun toks' e => by
    conv => lhs; unfold zcm
    rw [e, if_neg h8]
    all_goals (cases zdx toks' k acc.length i with | none => rfl | some s => cases s <;> rfl)
   cases hq : zdx toks k acc.length i with
   | none => rw [hq] at h; cases h
   | some s =>
    rw [hq] at h
    cases s with
    | bad e' p' =>
     obtain ⟨rfl, rfl⟩ := PR.bad.inj (Option.some.inj h)
     obtain ⟨q, h1, hl, h2, h3⟩ := L2 _ _ hq
     have s2 : ∀ toks', tk toks' i = tk toks i → ∀ e p, zdx toks' k acc.length i = some (.bad e p) → zcm toks' k (f + 1) i acc = some (.bad e p) := fun toks' e0 e p h => by rw [st toks' e0, h]
     refine ⟨q, h1, hl, fun toks' hu => s2 toks' (hu i (by omega)) _ _ (h2 toks' hu), ?_⟩
     rcases h3 with ⟨rfl, hh, k1, k2, k3, k4, k5⟩ | ⟨e1, e2, e3⟩
     ·refine .inl ⟨rfl, hh, by omega, k2, k3, k4, fun c toks' a1 a2 hcut => ?_⟩
      have e0 := hcut.1 i (by omega)
      rcases k5 c toks' a1 a2 hcut with h | ⟨m, h⟩ | ⟨h', hle, h⟩
      ·left
       have h : zdx toks' k acc.length i = none := h
       rw [st toks' e0, h]
      ·exact .inr (.inl ⟨m, s2 toks' e0 _ _ h⟩)
      ·exact .inr (.inr ⟨h', hle, s2 toks' e0 _ _ h⟩)
     ·refine .inr ⟨e1, e2, fun toks' hcut => ?_⟩
      by_cases h8' : (tk toks' i).kind = 8
      ·left
       unfold zcm
       rw [if_pos h8']
       exact ⟨_, _, rfl⟩
      ·have e0 : tk toks' i = tk toks i := hcut.1 i (by
        by_cases hqi : q = i
        ·subst hqi; exact absurd hcut.2.1 h8'
        ·omega)
       rcases e3 toks' hcut with h | h
       ·exact absurd h h8'
       ·exact .inr (s2 toks' e0 _ _ h)
    | ok x j =>
     obtain ⟨o1, o2, o3⟩ := L1 x j hq
     have s2 : ∀ toks', Upto toks toks' j → zcm toks' k (f + 1) i acc = zcm toks' k f j (acc ++ [x]) := fun toks' hu => by rw [st toks' (hu.1 i o1), o3 toks' hu]
     obtain ⟨q, h1, hl, h2, h3⟩ := ih j (acc ++ [x]) e p h
     refine ⟨q, by omega, fun hi => hl (o2 hi), fun toks' hu => (s2 toks' (hu.upto h1)).trans (h2 toks' hu), ?_⟩
     rcases h3 with ⟨rfl, hh, k1, k2, k3, k4, k5⟩ | ⟨e1, e2, e3⟩
     ·refine .inl ⟨rfl, hh, by omega, k2, k3, k4, fun c toks' a1 a2 hcut => ?_⟩
      rw [s2 toks' (hcut.upto (by omega))]
      exact k5 c toks' a1 a2 hcut
     ·refine .inr ⟨e1, e2, fun toks' hcut => ?_⟩
      rw [s2 toks' (hcut.upto h1)]
      exact e3 toks' hcut
end
end
end Go.Proofs.YtjeekocidaogoaaGreatDoor.H

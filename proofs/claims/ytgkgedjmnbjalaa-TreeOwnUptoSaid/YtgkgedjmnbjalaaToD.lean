/- Texts that the law needs, joined.
   Conditions: none. -/
import Derived.Test.YtgkgedjmnbjalaaToC
import Derived.OrdersIn
import Derived.RangeFuncCalls
import Derived.OwnWalkIn
import Derived.Tactics
import Derived.TacticsIn
import Derived.Test.YtgkgedjmnbjalaaToA
import Derived.Laws.EntriesVeiled
import Derived.Laws.Cover1
import Derived.Laws.CopyRow
import Derived.Lib.AppendZerosOnto
import Derived.Lib.Overlaps
import Derived.Laws.AppendOwn
set_option linter.unusedSimpArgs false
set_option linter.unusedVariables false
namespace Go.Proofs.Ytgkgedjmnbjalaa
open Go.RowKit Go.Sort
theorem by_asymm : ∀ x y : List UInt8, Op.bytesLess x y = true → Op.bytesLess y x = false
  | [], [], h => by simp [Op.bytesLess] at h
  | [], b :: y, _ => rfl
  | a :: x, [], h => by simp [Op.bytesLess] at h
  | a :: x, b :: y, h => by
    simp only [Op.bytesLess, Bool.or_eq_true, decide_eq_true_eq, Bool.and_eq_true, Bool.or_eq_false_iff, decide_eq_false_iff_not, Bool.and_eq_false_iff] at h ⊢
    rcases h with h | ⟨h1, h2⟩
    · refine ⟨UInt8.not_lt.2 (UInt8.le_of_lt h), .inl (by simp; intro e; subst e; exact absurd h (UInt8.lt_irrefl _))⟩
    · simp at h1
      subst h1
      exact ⟨UInt8.lt_irrefl _, .inr (by_asymm x y h2)⟩
theorem by_anti : ∀ x y : List UInt8, Op.bytesLess x y = false → Op.bytesLess y x = false → x = y
  | [], [], _, _ => rfl
  | [], b :: y, h, _ => by simp [Op.bytesLess] at h
  | a :: x, [], _, h => by simp [Op.bytesLess] at h
  | a :: x, b :: y, h, k => by
    simp only [Op.bytesLess, Bool.or_eq_false_iff, decide_eq_false_iff_not, Bool.and_eq_false_iff] at h k
    have hab : a = b := UInt8.le_antisymm (UInt8.not_lt.1 k.1) (UInt8.not_lt.1 h.1)
    subst hab
    have h2 : Op.bytesLess x y = false := by simpa using h.2
    have k2 : Op.bytesLess y x = false := by simpa using k.2
    rw [by_anti x y h2 k2]
theorem by_trans : ∀ x y z : List UInt8, Op.bytesLess x y = true → Op.bytesLess y z = true → Op.bytesLess x z = true
  | _, [], z, h, _ => by simp [Op.bytesLess] at h
  | x, b :: y, [], _, k => by simp [Op.bytesLess] at k
  | [], b :: y, c :: z, _, _ => rfl
  | a :: x, b :: y, c :: z, h, k => by
    simp only [Op.bytesLess, Bool.or_eq_true, decide_eq_true_eq, Bool.and_eq_true] at h k ⊢
    rcases h with h | ⟨h1, h2⟩
    · rcases k with k | ⟨k1, k2⟩
      · exact .inl (UInt8.lt_trans h k)
      · simp at k1; subst k1; exact .inl h
    · simp at h1
      subst h1
      rcases k with k | ⟨k1, k2⟩
      · exact .inl k
      · simp at k1; subst k1; exact .inr ⟨by simp, by_trans x y z h2 k2⟩
theorem ltB_asymm {a b : ByteArray} (h : ltB a b = true) : ltB b a = false := by_asymm _ _ h
theorem ltB_trans {a b c : ByteArray} (h : ltB a b = true) (k : ltB b c = true) : ltB a c = true := by_trans _ _ _ h k
theorem ltB_eq {a b : ByteArray} (h : ltB a b = false) (k : ltB b a = false) : a = b := of_decide_eq_true (by rw [← str_eq, by_anti _ _ h k]; exact beq_self_eq_true _)
theorem lessT_irr (x : T) : lessT x x = false := by simp [lessT, ltB_irr]
theorem lessT_asymm {x y : T} (h : lessT x y = true) : lessT y x = false := by
  simp only [lessT, Bool.or_eq_true, Bool.and_eq_true, decide_eq_true_eq, Bool.or_eq_false_iff, Bool.and_eq_false_iff, decide_eq_false_iff_not] at h ⊢
  rcases h with h | ⟨h1, h2⟩
  · exact ⟨ltB_asymm h, .inl (fun e => by rw [e, ltB_irr] at h; cases h)⟩
  · exact ⟨by rw [h1]; exact ltB_irr _, .inr (ltB_asymm h2)⟩
theorem lessT_trans {x y z : T} (h : lessT x y = true) (k : lessT y z = true) : lessT x z = true := by
  simp only [lessT, Bool.or_eq_true, Bool.and_eq_true, decide_eq_true_eq] at h k ⊢
  rcases h with h | ⟨h1, h2⟩
  · rcases k with k | ⟨k1, k2⟩
    · exact .inl (ltB_trans h k)
    · exact .inl (by rw [← k1]; exact h)
  · rcases k with k | ⟨k1, k2⟩
    · exact .inl (by rw [h1]; exact k)
    · exact .inr ⟨h1.trans k1, ltB_trans h2 k2⟩
theorem lessT_step {x y z : T} (h : stepT x = stepT y) : lessT x z = lessT y z ∧ lessT z x = lessT z y := by
  have h1 : x.name = y.name := congrArg Prod.fst h
  have h2 : x.key = y.key := congrArg Prod.snd h
  exact ⟨by unfold lessT; rw [h1, h2], by unfold lessT; rw [h1, h2]⟩
theorem step_of_less {x y : T} (h : lessT x y = false) (k : lessT y x = false) : stepT x = stepT y := by
  simp only [lessT, Bool.or_eq_false_iff, Bool.and_eq_false_iff, decide_eq_false_iff_not] at h k
  have hn := ltB_eq h.1 k.1
  have h2 : ltB x.key y.key = false := by
    rcases h.2 with h' | h'
    · exact absurd hn h'
    · exact h'
  have k2 : ltB y.key x.key = false := by
    rcases k.2 with h' | h'
    · exact absurd hn.symm h'
    · exact h'
  exact Prod.ext hn (ltB_eq h2 k2)
mutual
theorem sameT_rfl : ∀ t : T, sameT t t = true
  | .mk n k d m t l => by rw [sameT_mk]; simp [sameL_rfl l]
theorem sameL_rfl : ∀ l : List T, sameL l l = true
  | [] => rfl
  | x :: l => by rw [sameL, sameT_rfl x, sameL_rfl l]; rfl
end
mutual
theorem sameT_to : ∀ a b : T, sameT a b = true → a = b
  | .mk n k d m t l, .mk n' k' d' m' t' l', h => by
    rw [sameT_mk] at h
    simp only [Bool.and_eq_true, decide_eq_true_eq] at h
    obtain ⟨⟨⟨h1, h2⟩, ⟨h3, h4⟩, h5⟩, h6⟩ := h
    rw [h1, h2, h3, h4, h5, sameL_to l l' h6]
theorem sameL_to : ∀ l m : List T, sameL l m = true → l = m
  | [], [], _ => rfl
  | x :: l, y :: m, h => by
    rw [sameL, Bool.and_eq_true] at h
    rw [sameT_to x y h.1, sameL_to l m h.2]
  | [], y :: m, h => by simp [sameL] at h
  | x :: l, [], h => by simp [sameL] at h
end
theorem sameT_iff {a b : T} : sameT a b = true ↔ a = b := ⟨sameT_to a b, fun h => by rw [h]; exact sameT_rfl b⟩
theorem right_zero {x : T} (h : rightT x = true) (h0 : x.kind = 0) : x.num = 0 ∧ x.text = ⟨#[]⟩ ∧ rightL none x.kids = true := by
  obtain ⟨n, k, d, m, t, l⟩ := x
  have h0' : d = 0 := h0
  subst h0'
  rw [rightT, if_pos rfl, Bool.and_eq_true, Bool.and_eq_true] at h
  exact ⟨of_decide_eq_true h.1.1, of_decide_eq_true h.1.2, h.2⟩
theorem right_leaf {x : T} (h : rightT x = true) (h0 : x.kind ≠ 0) : x.kids = [] := by
  obtain ⟨n, k, d, m, t, l⟩ := x
  have h0' : ¬ d = 0 := h0
  rw [rightT, if_neg h0'] at h
  exact List.isEmpty_iff.1 h
end Go.Proofs.Ytgkgedjmnbjalaa
set_option linter.unusedSimpArgs false
namespace Go.Proofs.Ytgkgedjmnbjalaa
open Go.RowKit Go.Sort
def findAt : List T → Step → Nat → Int
  | [], _, _ => -1
  | x :: l, s, j => if stepT x = s then (j : Int) else findAt l s (j + 1)
def findT (l : List T) (s : Step) : Int := findAt l s 0
theorem findAt_drop {l : List T} {j : Nat} {x : T} (h : l[j]? = some x) (s : Step) : findAt (l.drop j) s j = if stepT x = s then (j : Int) else findAt (l.drop (j + 1)) s (j + 1) := by
  obtain ⟨h1, h2⟩ := List.getElem?_eq_some_iff.1 h
  rw [List.drop_eq_getElem_cons h1, h2, findAt]
theorem findAt_spec : ∀ (l : List T) (s : Step) (j : Nat), (findAt l s j = -1 ∧ ∀ x ∈ l, stepT x ≠ s) ∨ ∃ i x, findAt l s j = ((j + i : Nat) : Int) ∧ l[i]? = some x ∧ stepT x = s ∧ ∀ k y, k < i → l[k]? = some y → stepT y ≠ s
  | [], s, j => .inl ⟨rfl, by simp⟩
  | x :: l, s, j => by
    by_cases h : stepT x = s
    · exact .inr ⟨0, x, by rw [findAt, if_pos h]; rfl, rfl, h, fun k y hk => absurd hk (by omega)⟩
    · rw [findAt, if_neg h]
      rcases findAt_spec l s (j + 1) with ⟨h1, h2⟩ | ⟨i, y, h1, h2, h3, h4⟩
      · exact .inl ⟨h1, fun y hy => by rcases List.mem_cons.1 hy with rfl | hy; exact h; exact h2 y hy⟩
      · refine .inr ⟨i + 1, y, by rw [h1]; congr 1; omega, by simpa using h2, h3, fun k z hk hz => ?_⟩
        cases k with
        | zero => simp at hz; subst hz; exact h
        | succ k => exact h4 k z (by omega) (by simpa using hz)
theorem findT_spec (l : List T) (s : Step) : (findT l s = -1 ∧ ∀ x ∈ l, stepT x ≠ s) ∨ ∃ (i : Nat) (x : T), findT l s = (i : Int) ∧ l[i]? = some x ∧ stepT x = s ∧ ∀ (k : Nat) y, k < i → l[k]? = some y → stepT y ≠ s := by
  rcases findAt_spec l s 0 with h | ⟨i, x, h1, h2⟩
  · exact .inl h
  · exact .inr ⟨i, x, by rw [findT, h1, Nat.zero_add], h2⟩
theorem less_ne {x y : T} (h : lessT x y = true) : stepT x ≠ stepT y := fun e => by
  have := (lessT_step (z := y) e).1
  rw [h, lessT_irr] at this
  cases this
end Go.Proofs.Ytgkgedjmnbjalaa
set_option linter.unusedSimpArgs false
namespace Go.Proofs.Ytgkgedjmnbjalaa
open Go.RowKit Go.Sort
def T.wk (t : T) (l : List T) : T := .mk t.name t.key t.kind t.num t.text l
theorem wk_self (t : T) : t.wk t.kids = t := by cases t; rfl
def kid (l : List T) (s : Step) : Option T := l.find? (fun x => decide (stepT x = s))
def repL : List T → Step → T → List T
  | [], _, _ => []
  | y :: l, s, x => if stepT y = s then x :: l else y :: repL l s x
def cutL : List T → Step → List T
  | [], _ => []
  | y :: l, s => if stepT y = s then l else y :: cutL l s
def insL : List T → T → List T
  | [], x => [x]
  | y :: l, x => if lessT y x = true then y :: insL l x else x :: y :: l
def setL (l : List T) (x : T) : List T := if (kid l (stepT x)).isSome = true then repL l (stepT x) x else insL l x
theorem kid_none {l : List T} {s : Step} : kid l s = none ↔ ∀ x ∈ l, stepT x ≠ s := by simp [kid]
theorem kid_some {l : List T} {s : Step} {x : T} (h : kid l s = some x) : ∃ pre suf, l = pre ++ x :: suf ∧ stepT x = s ∧ ∀ p ∈ pre, stepT p ≠ s := by
  obtain ⟨h1, pre, suf, h2, h3⟩ := List.find?_eq_some_iff_append.1 h
  exact ⟨pre, suf, h2, by simpa using h1, fun p hp => by simpa using h3 p hp⟩
theorem kid_pre {s : Step} : ∀ {pre : List T}, (∀ p ∈ pre, stepT p ≠ s) → ∀ l, kid (pre ++ l) s = kid l s
  | [], _, l => rfl
  | p :: pre, h, l => by
    have h1 := h p (by simp)
    have h2 := kid_pre (pre := pre) (fun q hq => h q (by simp [hq])) l
    simp only [kid, List.cons_append, List.find?_cons] at h2 ⊢
    rw [decide_eq_false h1]
    exact h2
theorem rep_pre {s : Step} {x : T} : ∀ {pre : List T}, (∀ p ∈ pre, stepT p ≠ s) → ∀ l, repL (pre ++ l) s x = pre ++ repL l s x
  | [], _, l => rfl
  | p :: pre, h, l => by
    have h1 := h p (by simp)
    have h2 := rep_pre (x := x) (pre := pre) (fun q hq => h q (by simp [hq])) l
    simp only [List.cons_append, repL, if_neg h1, h2]
theorem cut_pre {s : Step} : ∀ {pre : List T}, (∀ p ∈ pre, stepT p ≠ s) → ∀ l, cutL (pre ++ l) s = pre ++ cutL l s
  | [], _, l => rfl
  | p :: pre, h, l => by
    have h1 := h p (by simp)
    have h2 := cut_pre (pre := pre) (fun q hq => h q (by simp [hq])) l
    simp only [List.cons_append, cutL, if_neg h1, h2]
theorem ins_pre {x : T} : ∀ {pre : List T}, (∀ p ∈ pre, lessT p x = true) → ∀ l, insL (pre ++ l) x = pre ++ insL l x
  | [], _, l => rfl
  | p :: pre, h, l => by
    have h1 := h p (by simp)
    have h2 := ins_pre (pre := pre) (fun q hq => h q (by simp [hq])) l
    simp only [List.cons_append, insL, if_pos h1, h2]
theorem kid_at {s : Step} {pre suf : List T} {x : T} (h : ∀ p ∈ pre, stepT p ≠ s) (hx : stepT x = s) : kid (pre ++ x :: suf) s = some x := by
  rw [kid_pre h]; simp [kid, hx]
theorem rep_at {s : Step} {pre suf : List T} {x y : T} (h : ∀ p ∈ pre, stepT p ≠ s) (hx : stepT x = s) : repL (pre ++ x :: suf) s y = pre ++ y :: suf := by
  rw [rep_pre h]; simp [repL, hx]
theorem cut_at {s : Step} {pre suf : List T} {x : T} (h : ∀ p ∈ pre, stepT p ≠ s) (hx : stepT x = s) : cutL (pre ++ x :: suf) s = pre ++ suf := by
  rw [cut_pre h]; simp [cutL, hx]
def Srt (l : List T) : Prop := l.Pairwise (fun a b => lessT a b = true)
theorem right_srt : ∀ {l : List T} {p : Option T}, rightL p l = true ↔ (∀ x ∈ l, rightT x = true) ∧ Srt l ∧ ∀ q, p = some q → ∀ x ∈ l, lessT q x = true
  | [], p => by simp [rightL, Srt]
  | x :: l, p => by
    rw [rightL_cons, Bool.and_eq_true, Bool.and_eq_true, right_srt (l := l) (p := some x)]
    constructor
    · rintro ⟨⟨h1, h2⟩, h3, h4, h5⟩
      refine ⟨fun y hy => ?_, List.pairwise_cons.2 ⟨h5 x rfl, h4⟩, fun q hq y hy => ?_⟩
      · rcases List.mem_cons.1 hy with rfl | hy
        · exact h1
        · exact h3 y hy
      · subst hq
        simp only at h2
        rcases List.mem_cons.1 hy with rfl | hy
        · exact h2
        · exact lessT_trans h2 (h5 x rfl y hy)
    · rintro ⟨h1, h2, h3⟩
      have h2' := List.pairwise_cons.1 h2
      refine ⟨⟨h1 x (by simp), ?_⟩, fun y hy => h1 y (by simp [hy]), h2'.2, fun q hq y hy => by cases hq; exact h2'.1 y hy⟩
      cases p with
      | none => rfl
      | some q => exact h3 q rfl x (by simp)
theorem right_box {t : T} (h : t.kind = 0) : rightT t = true ↔ t.num = 0 ∧ t.text = ⟨#[]⟩ ∧ (∀ x ∈ t.kids, rightT x = true) ∧ Srt t.kids := by
  constructor
  · intro hr
    obtain ⟨h1, h2, h3⟩ := right_zero hr h
    obtain ⟨h4, h5, _⟩ := right_srt.1 h3
    exact ⟨h1, h2, h4, h5⟩
  · rintro ⟨h1, h2, h3, h4⟩
    have h5 : rightL none t.kids = true := right_srt.2 ⟨h3, h4, fun q hq => by cases hq⟩
    obtain ⟨n, k, d, m, x, l⟩ := t
    simp only [T.kind, T.num, T.text, T.kids] at h h1 h2 h5
    subst h h1 h2
    simp [rightT, h5]
theorem right_kid' {t x : T} (h : rightT t = true) (hx : x ∈ t.kids) : t.kind = 0 ∧ rightT x = true := by
  by_cases h0 : t.kind = 0
  · exact ⟨h0, ((right_box h0).1 h).2.2.1 x hx⟩
  · rw [right_leaf h h0] at hx; cases hx
theorem srt_split {pre suf : List T} {x : T} (h : Srt (pre ++ x :: suf)) : (∀ p ∈ pre, lessT p x = true) ∧ (∀ z ∈ suf, lessT x z = true) ∧ Srt (pre ++ suf) ∧ ∀ y, stepT y = stepT x → Srt (pre ++ y :: suf) := by
  obtain ⟨h1, h2, h3⟩ := List.pairwise_append.1 h
  obtain ⟨h4, h5⟩ := List.pairwise_cons.1 h2
  have h6 : ∀ p ∈ pre, lessT p x = true := fun p hp => h3 p hp x (by simp)
  refine ⟨h6, h4, List.pairwise_append.2 ⟨h1, h5, fun p hp z hz => h3 p hp z (by simp [hz])⟩, fun y hy => List.pairwise_append.2 ⟨h1, List.pairwise_cons.2 ⟨fun z hz => ?_, h5⟩, fun p hp z hz => ?_⟩⟩
  · rw [(lessT_step (z := z) hy).1]; exact h4 z hz
  · rcases List.mem_cons.1 hz with rfl | hz
    · rw [(lessT_step (z := p) hy).2]; exact h6 p hp
    · exact h3 p hp z (by simp [hz])
def getT : T → List Step → Option T
  | t, [] => some t
  | t, s :: r => (kid t.kids s).bind fun k => getT k r
theorem getT_cons (t : T) (s : Step) (r : List Step) : getT t (s :: r) = (kid t.kids s).bind fun k => getT k r := rfl
theorem getT_one (t : T) (s : Step) : getT t [s] = kid t.kids s := by rw [getT_cons]; cases kid t.kids s <;> rfl
theorem getT_append : ∀ (l m : List Step) (t : T), getT t (l ++ m) = (getT t l).bind fun u => getT u m
  | [], m, t => rfl
  | s :: l, m, t => by
    rw [List.cons_append, getT_cons, getT_cons]
    cases kid t.kids s with
    | none => rfl
    | some k => exact getT_append l m k
def setT : T → List Step → T → T
  | t, [], _ => t
  | t, [_], x => t.wk (setL t.kids x)
  | t, s :: q :: r, x => match kid t.kids s with | none => t | some k => t.wk (repL t.kids s (setT k (q :: r) x))
def cutT : T → List Step → T
  | t, [] => t
  | t, [s] => t.wk (cutL t.kids s)
  | t, s :: q :: r => match kid t.kids s with | none => t | some k => t.wk (repL t.kids s (cutT k (q :: r)))
def setR (n : T) (way : List Step) (x : T) : T × Int :=
  if way.getLast? = some (stepT x) then
    match getT n way.dropLast with
    | none => (zeroT, 30)
    | some p => if p.kind ≠ 0 then (zeroT, 30) else (setT n way x, 0)
  else (zeroT, 1)
def cutR (n : T) (way : List Step) : T × Int :=
  if way = [] then (zeroT, 30) else match getT n way with | none => (zeroT, 30) | some _ => (cutT n way, 0)
theorem setR_one (n : T) (s : Step) (x : T) : setR n [s] x = if s = stepT x then (if n.kind ≠ 0 then (zeroT, 30) else (n.wk (setL n.kids x), 0)) else (zeroT, 1) := by
  unfold setR
  by_cases h : s = stepT x
  · simp [h, getT, setT]
  · simp [h]
theorem cutR_one (n : T) (s : Step) : cutR n [s] = match kid n.kids s with | none => (zeroT, 30) | some _ => (n.wk (cutL n.kids s), 0) := by
  unfold cutR
  rw [if_neg (by simp), getT_one]
  rfl
end Go.Proofs.Ytgkgedjmnbjalaa
set_option linter.unusedSimpArgs false
namespace Go.Proofs.Ytgkgedjmnbjalaa
open Go.RowKit Go.Sort
theorem right_has {t x : T} {s : Step} (h : rightT t = true) (hk : kid t.kids s = some x) : t.kind = 0 ∧ rightT x = true ∧ Srt t.kids ∧ stepT x = s := by
  obtain ⟨pre, suf, e, h2, h3⟩ := kid_some hk
  have hx : x ∈ t.kids := by rw [e]; simp
  obtain ⟨h0, h1⟩ := right_kid' h hx
  exact ⟨h0, h1, ((right_box h0).1 h).2.2.2, h2⟩
end Go.Proofs.Ytgkgedjmnbjalaa
set_option linter.unusedSimpArgs false
namespace Go.Proofs.Ytgkgedjmnbjalaa
open Go.RowKit Go.Sort
theorem own_keep {w w' : World} {B : Nat} {e : TypeId} {sz n : Nat} {v : Value} {xs : List Value} (h : w.ownsRow B e sz v n xs) (hk : ∀ g, v.ownBlock = some g → w'.heap[g]? = w.heap[g]?) : w'.ownsRow B e sz v n xs := by
  refine ⟨h.1, ?_⟩
  rcases h.2 with hn | ⟨g, cap, cur, rfl, hb, hgg, rest⟩
  · exact .inl hn
  · exact .inr ⟨g, cap, cur, rfl, hb, by rw [hk g rfl]; exact hgg, rest⟩
theorem own_weak {w : World} {B B' : Nat} {e : TypeId} {sz n : Nat} {v : Value} {xs : List Value} (hB : B' ≤ B) (h : w.ownsRow B e sz v n xs) : w.ownsRow B' e sz v n xs := by
  refine ⟨h.1, ?_⟩
  rcases h.2 with hn | ⟨g, cap, cur, rfl, hb, hgg, rest⟩
  · exact .inl hn
  · exact .inr ⟨g, cap, cur, rfl, by omega, hgg, rest⟩
theorem own_cap {w : World} {B : Nat} {e : TypeId} {sz n m c : Nat} {K : Option Addr} {xs : List Value} (h : w.ownsRow B e sz (.slice K m c) n xs) : n ≤ c ∧ c ≤ maxLen ∧ (K = none → c = 0) ∧ ∀ a, K = some a → ∃ g, a = ⟨g, 0, none⟩ ∧ B ≤ g ∧ g < w.heap.size := by
  rcases h.2 with ⟨hv, h0⟩ | ⟨g, cap, cur, hv, hb, hg, hc, hm, hs, ht⟩
  · simp only [Value.slice.injEq] at hv
    obtain ⟨rfl, rfl, rfl⟩ := hv
    subst h0
    exact ⟨Nat.le_refl _, Nat.zero_le _, fun _ => rfl, fun a ha => by cases ha⟩
  · simp only [Value.slice.injEq] at hv
    obtain ⟨rfl, rfl, rfl⟩ := hv
    exact ⟨hc, hm, fun h => (by cases h), fun a ha => (by cases ha; exact ⟨g, rfl, hb, heap_lt hg⟩)⟩
inductive OT : (Nat → Prop) → World → T → List Value → Prop where
  | mk (S : Nat → Prop) (w : World) (name key : ByteArray) (kind num : Int) (text : ByteArray) (kids : List T) (K : Option Addr) (kc : Nat) (css : List (List Value)) (Si : Nat → Nat → Prop)
    (hl : css.length = kids.length) (h6 : ∀ c ∈ css, c.length = 6) (hb : kids.length ≤ 1048576)
    (hown : w.ownsRow 0 54 6 (.slice K kids.length kc) kids.length css.flatten)
    (hg : ∀ g, (Value.slice K kids.length kc).ownBlock = some g → S g ∧ ∀ i, ¬ Si i g)
    (hS : ∀ i b, Si i b → S b)
    (hd : ∀ i j b, Si i b → Si j b → i = j)
    (hr : ∀ (i : Nat) k c, kids[i]? = some k → css[i]? = some c → OT (Si i) w k c) :
    OT S w (.mk name key kind num text kids) (cT name key kind num text K kids.length kc)
structure ORow (S : Nat → Prop) (w : World) (K : Option Addr) (kids : List T) (kc : Nat) (css : List (List Value)) (Si : Nat → Nat → Prop) : Prop where
  hl : css.length = kids.length
  h6 : ∀ c ∈ css, c.length = 6
  hb : kids.length ≤ 1048576
  own : w.ownsRow 0 54 6 (.slice K kids.length kc) kids.length css.flatten
  g : ∀ g, (Value.slice K kids.length kc).ownBlock = some g → S g ∧ ∀ i, ¬ Si i g
  sub : ∀ i b, Si i b → S b
  dis : ∀ i j b, Si i b → Si j b → i = j
  each : ∀ (i : Nat) k c, kids[i]? = some k → css[i]? = some c → OT (Si i) w k c
theorem OT.row {S : Nat → Prop} {w : World} {t : T} {c : List Value} (h : OT S w t c) : ∃ K kc css Si, c = cT t.name t.key t.kind t.num t.text K t.kids.length kc ∧ ORow S w K t.kids kc css Si := by
  cases h with
  | mk S w name key kind num text kids K kc css Si hl h6 hb hown hg hS hd hr => exact ⟨K, kc, css, Si, rfl, ⟨hl, h6, hb, hown, hg, hS, hd, hr⟩⟩
theorem OT.of_row {S : Nat → Prop} {w : World} {t : T} {K : Option Addr} {kc : Nat} {css : List (List Value)} {Si : Nat → Nat → Prop} (h : ORow S w K t.kids kc css Si) : OT S w t (cT t.name t.key t.kind t.num t.text K t.kids.length kc) := by
  obtain ⟨name, key, kind, num, text, kids⟩ := t
  exact .mk S w name key kind num text kids K kc css Si h.hl h.h6 h.hb h.own h.g h.sub h.dis h.each
theorem OT.len {S : Nat → Prop} {w : World} {t : T} {c : List Value} (h : OT S w t c) : c.length = 6 := by cases h; rfl
theorem OT.mono {S S' : Nat → Prop} {w : World} {t : T} {c : List Value} (hs : ∀ b, S b → S' b) (h : OT S w t c) : OT S' w t c := by
  cases h with
  | mk S w name key kind num text kids K kc css Si hl h6 hb hown hg hS hd hr =>
    exact .mk S' w name key kind num text kids K kc css Si hl h6 hb hown (fun g h => ⟨hs g (hg g h).1, (hg g h).2⟩) (fun i b h => hs b (hS i b h)) hd hr
theorem OT.keep {S : Nat → Prop} {w w' : World} {t : T} {c : List Value} (h : OT S w t c) (hk : ∀ b, S b → w'.heap[b]? = w.heap[b]?) : OT S w' t c := by
  induction h with
  | mk S w name key kind num text kids K kc css Si hl h6 hb hown hg hS hd hr ih =>
    exact .mk S w' name key kind num text kids K kc css Si hl h6 hb (own_keep hown fun g h => hk g (hg g h).1) hg hS hd (fun i k c hi hc => ih i k c hi hc fun b hb => hk b (hS i b hb))
theorem OT.ext {S : Nat → Prop} {w w' : World} {t : T} {c : List Value} (hS : ∀ b, S b → b < w.heap.size) (hx : Ext w w') (h : OT S w t c) : OT S w' t c := h.keep fun b hb => hx.block b (hS b hb)
theorem OT.rt {S : Nat → Prop} {w : World} {t : T} {c : List Value} (h : OT S w t c) : RT S w t c := by
  induction h with
  | mk S w name key kind num text kids K kc css Si hl h6 hb hown hg hS hd hr ih =>
    obtain ⟨h1, _, h3, _⟩ := own_cap hown
    refine .mk name key kind num text kids K kc css hl h6 (fun hn => ?_) (fun i k c hi hc => (ih i k c hi hc).mono fun b _ hb => hS i b hb) ⟨h1, hb, h3⟩
    obtain ⟨g, cap, sp, hv, _, hbk, _⟩ := own_form hown (by cases kids with | nil => exact absurd rfl hn | cons x l => simp)
    simp only [Value.slice.injEq] at hv
    obtain ⟨rfl, _, _⟩ := hv
    refine ⟨g, 0, rfl, (hg g rfl).1, fun j v hj => ?_⟩
    rw [Nat.zero_add, hbk.cell, List.getElem?_append_left (List.getElem?_eq_some_iff.1 hj).1]
    exact hj
theorem ORow.rrow {S : Nat → Prop} {w : World} {K : Option Addr} {kids : List T} {kc : Nat} {css : List (List Value)} {Si : Nat → Nat → Prop} (h : ORow S w K kids kc css Si) : RRow S w K kids kc := by
  have h1 := (OT.of_row (t := .mk ⟨#[]⟩ ⟨#[]⟩ 0 0 ⟨#[]⟩ kids) (K := K) (kc := kc) h).rt
  obtain ⟨K', kc', h2, h3⟩ := h1.row
  simp only [cT, T.name, T.key, T.kind, T.num, T.text, T.kids, List.cons.injEq, Value.slice.injEq, true_and, and_true] at h2
  obtain ⟨rfl, rfl⟩ := h2
  exact h3
theorem own_set6 {w w' : World} {B n kc g i : Nat} {css : List (List Value)} {cs' c' : List Value} (h6 : ∀ c ∈ css, c.length = 6) (hl : css.length = n) (hown : w.ownsRow B 54 6 (.slice (some ⟨g, 0, none⟩) n kc) n css.flatten) (hi : i < n) (hc' : c'.length = 6)
    (hb : ∀ cs, Blk w g cs 54 → Blk w' g cs' 54 ∧ cs'.length = cs.length ∧ (∀ p, p < i * 6 ∨ i * 6 + 6 ≤ p → cs'[p]? = cs[p]?) ∧ ∀ q v, c'[q]? = some v → cs'[i * 6 + q]? = some v) :
    w'.ownsRow B 54 6 (.slice (some ⟨g, 0, none⟩) n kc) n (css.set i c').flatten := by
  obtain ⟨g', cap, sp, hv, hB, hbk, hn, hm, hs⟩ := own_form hown (by omega)
  simp only [Value.slice.injEq, Option.some.injEq, Addr.mk.injEq, and_true, true_and] at hv
  obtain ⟨rfl, rfl⟩ := hv
  obtain ⟨b1, b2, b3, b4⟩ := hb _ hbk
  have h6' : ∀ c ∈ css.set i c', c.length = 6 := fun c hc => by
    rcases List.mem_or_eq_of_mem_set hc with hc | hc
    · exact h6 c hc
    · rw [hc]; exact hc'
  have hf : css.flatten.length = n * 6 := by rw [flatten_len css h6, hl]
  have hf' : (css.set i c').flatten.length = n * 6 := by rw [flatten_len _ h6', List.length_set, hl]
  have e : cs' = (css.set i c').flatten ++ sp := by
    apply List.ext_getElem?
    intro p
    by_cases hp : p < n * 6
    · rw [List.getElem?_append_left (by omega)]
      have hq : p / 6 < n := Nat.div_lt_of_lt_mul (by omega)
      have hpq : p = p / 6 * 6 + p % 6 := by omega
      by_cases he : p / 6 = i
      · have hlt : p % 6 < c'.length := by rw [hc']; omega
        have h1 := b4 (p % 6) _ (List.getElem?_eq_getElem hlt)
        have h2 := flatten_get (css.set i c') h6' i c' (List.getElem?_set_self (by omega)) (p % 6) _ (List.getElem?_eq_getElem hlt)
        rw [← he] at h1 h2
        rw [← hpq] at h1 h2
        rw [he] at h2
        rw [h1, h2]
      · have hci : (css[p / 6]'(by omega)).length = 6 := h6 _ (List.getElem_mem _)
        have hlt : p % 6 < (css[p / 6]'(by omega)).length := by omega
        have h1 := flatten_get css h6 (p / 6) _ (List.getElem?_eq_getElem (by omega)) (p % 6) _ (List.getElem?_eq_getElem hlt)
        have h2 := flatten_get (css.set i c') h6' (p / 6) _ (by rw [List.getElem?_set_ne (fun h => he h.symm)]; exact List.getElem?_eq_getElem (by omega)) (p % 6) _ (List.getElem?_eq_getElem hlt)
        rw [← hpq] at h1 h2
        rw [h2, b3 p (by omega), List.getElem?_append_left (by omega), h1]
    · rw [List.getElem?_append_right (by omega), b3 p (by omega), List.getElem?_append_right (by omega), hf, hf']
  subst e
  exact own_intro hB b1 hn hm (by rw [b2]; exact hs) hf'
theorem ORow.set {S Sx : Nat → Prop} {w w' : World} {K : Option Addr} {kids : List T} {kc i N : Nat} {css : List (List Value)} {Si : Nat → Nat → Prop} {x : T} {cx : List Value} (h : ORow S w K kids kc css Si) (hN : ∀ b, S b → b < N)
    (hx : OT Sx w' x cx) (hsx : ∀ b, Sx b → Si i b ∨ N ≤ b) (hown : w'.ownsRow 0 54 6 (.slice K kids.length kc) kids.length (css.set i cx).flatten) (hk : ∀ j, j ≠ i → ∀ b, Si j b → w'.heap[b]? = w.heap[b]?) :
    ORow (fun b => S b ∨ N ≤ b) w' K (kids.set i x) kc (css.set i cx) (fun j b => if j = i then Sx b else Si j b) := by
  refine ⟨by simp [h.hl], fun c hc => ?_, by simp [h.hb], by simpa using hown, fun g hg => ?_, fun j b hb => ?_, fun j j' b h1 h2 => ?_, fun j k c hj hc => ?_⟩
  · rcases List.mem_or_eq_of_mem_set hc with hc | hc
    · exact h.h6 c hc
    · rw [hc]; exact hx.len
  · rw [List.length_set] at hg
    obtain ⟨g1, g2⟩ := h.g g hg
    refine ⟨.inl g1, fun j => ?_⟩
    split
    · intro hs
      rcases hsx g hs with h3 | h3
      · exact g2 i h3
      · have := hN g g1; omega
    · exact g2 j
  · split at hb
    · rcases hsx b hb with h3 | h3
      · exact .inl (h.sub i b h3)
      · exact .inr h3
    · exact .inl (h.sub j b hb)
  · split at h1 <;> split at h2
    · omega
    · rename_i e1 e2
      rcases hsx b h1 with h3 | h3
      · have := h.dis i j' b h3 h2; omega
      · have := hN b (h.sub j' b h2); omega
    · rename_i e1 e2
      rcases hsx b h2 with h3 | h3
      · have := h.dis i j b h3 h1; omega
      · have := hN b (h.sub j b h1); omega
    · exact h.dis j j' b h1 h2
  · by_cases hji : j = i
    · subst hji
      have hlt : j < kids.length := by have := (List.getElem?_eq_some_iff.1 hj).1; simpa using this
      rw [List.getElem?_set_self hlt] at hj
      rw [List.getElem?_set_self (by rw [h.hl]; exact hlt)] at hc
      cases hj; cases hc
      simpa using hx
    · rw [List.getElem?_set_ne (fun e => hji e.symm)] at hj hc
      simp only [if_neg hji]
      exact (h.each j k c hj hc).keep fun b hb => hk j hji b hb
theorem ORow.perm {S Sx : Nat → Prop} {w w' : World} {K K' : Option Addr} {kids kids' : List T} {kc kc' N : Nat} {css css' : List (List Value)} {Si : Nat → Nat → Prop} {x : T} {cx : List Value} (h : ORow S w K kids kc css Si) (hN : ∀ b, S b → b < N) (f : Nat → Option Nat)
    (hx : (∃ j, f j = none) → OT Sx w' x cx) (hsx : ∀ b, Sx b → N ≤ b) (hl' : css'.length = kids'.length) (hb' : kids'.length ≤ 1048576)
    (hf : ∀ (j : Nat) k c, kids'[j]? = some k → css'[j]? = some c → (∃ i, f j = some i ∧ kids[i]? = some k ∧ css[i]? = some c) ∨ (f j = none ∧ k = x ∧ c = cx))
    (hinj : ∀ j j', f j = f j' → j = j') (hown : w'.ownsRow 0 54 6 (.slice K' kids'.length kc') kids'.length css'.flatten) (hk : ∀ i b, Si i b → w'.heap[b]? = w.heap[b]?)
    (hg' : ∀ g, (Value.slice K' kids'.length kc').ownBlock = some g → (Value.slice K kids.length kc).ownBlock = some g ∨ (N ≤ g ∧ ¬ Sx g)) :
    ORow (fun b => S b ∨ N ≤ b) w' K' kids' kc' css' (fun j b => match f j with | some i => Si i b | none => Sx b) := by
  have hlen : ∀ j, j < css'.length → ∃ k c, kids'[j]? = some k ∧ css'[j]? = some c := fun j hj => ⟨_, _, List.getElem?_eq_getElem (by omega), List.getElem?_eq_getElem hj⟩
  refine ⟨hl', fun c hc => ?_, hb', hown, fun g hg => ?_, fun j b hb => ?_, fun j j' b h1 h2 => ?_, fun j k c hj hc => ?_⟩
  · obtain ⟨j, hj⟩ := List.getElem?_of_mem hc
    obtain ⟨k, c2, e1, e2⟩ := hlen j (List.getElem?_eq_some_iff.1 hj).1
    rw [hj] at e2; cases e2
    rcases hf j k c e1 hj with ⟨i, _, _, h2⟩ | ⟨h1, _, h2⟩
    · exact h.h6 c (List.mem_of_getElem? h2)
    · rw [h2]; exact (hx ⟨j, h1⟩).len
  · rcases hg' g hg with h1 | ⟨h1, h2⟩
    · obtain ⟨g1, g2⟩ := h.g g h1
      refine ⟨.inl g1, fun j => ?_⟩
      split
      · exact g2 _
      · intro hs; have := hN g g1; have := hsx g hs; omega
    · refine ⟨.inr h1, fun j => ?_⟩
      split
      · intro hs; have := hN g (h.sub _ g hs); omega
      · exact h2
  · split at hb
    · exact .inl (h.sub _ b hb)
    · exact .inr (hsx b hb)
  · split at h1 <;> split at h2
    · rename_i _ i e1 _ i' e2
      have := h.dis i i' b h1 h2
      exact hinj j j' (by rw [e1, e2, this])
    · have := hN b (h.sub _ b h1); have := hsx b h2; omega
    · have := hN b (h.sub _ b h2); have := hsx b h1; omega
    · rename_i e1 _ e2
      exact hinj j j' (by rw [e1, e2])
  · rcases hf j k c hj hc with ⟨i, e1, e2, e3⟩ | ⟨e1, rfl, rfl⟩
    · simp only [e1]
      exact (h.each i k c e2 e3).keep fun b hb => hk i b hb
    · simp only [e1]
      exact hx ⟨j, e1⟩
end Go.Proofs.Ytgkgedjmnbjalaa
set_option linter.unusedSimpArgs false
namespace Go.Proofs.Ytgkgedjmnbjalaa
open Go.RowKit Go.Sort
set_option maxRecDepth 100000 in
set_option maxHeartbeats 2000000 in
theorem find_one (x : T) (s : Step) (K : Option Addr) (c p : Nat) (w : World) (hp : Blk w p [.string s.1, .string s.2] 65) :
    Calls Try.prog 150 #[.agg #[.string x.name, .string x.key, .int .i64 x.kind, .int .u64 x.num, .string x.text, .slice K x.kids.length c], .pointer (some ⟨p, 0, none⟩)] w fun e w' => e = .returned (.bool (decide (stepT x = s))) ∧ Ext w w' := by
  obtain ⟨s1, s2⟩ := s
  have kP := Hd.mk hp
  have hs1 := Hd.mk (fun w => tree_step x K x.kids.length c w)
  simp only [cT] at hs1
  have sN := str_eq x.name s1
  have sK := str_eq x.key s2
  generalize hr : decide (stepT x = (s1, s2)) = r
  replace hr := Hd.mk hr
  clear hp
  go_enter Try.func150, Try.ntmps150
  go_wp2_with fail
  have kx := Hd.mk (Ext.alloc w (.cells #[.string x.name, .string x.key, .int .i64 x.kind, .int .u64 x.num, .string x.text, .slice K x.kids.length c] 54))
  have kA := Hd.mk (Blk.new w #[.string x.name, .string x.key, .int .i64 x.kind, .int .u64 x.num, .string x.text, .slice K x.kids.length c] 54)
  replace kP := Hd.mk (kP.out.ext kx.out)
  generalize w.heap.size = pA at *
  generalize w.alloc _ = W at *
  by_cases h1 : x.name = s1 ∧ x.key = s2
  · obtain ⟨rfl, rfl⟩ := h1
    have hr2 : r = true := by rw [← hr.out]; simp [stepT]
    subst hr2
    clear hr
    refine Flow.wp_region_flow_l (fun qq => match qq with
      | 4 => SP.eq (.agg #[.string x.name, .string x.key, .int .i64 x.kind, .int .u64 x.num, .string x.text, .slice K x.kids.length c])
      | 5 => SP.eq (.agg #[.string x.name, .string x.key])
      | 6 => SP.eq (.agg #[.string x.name, .string x.key])
      | 7 => SP.eq (.bool true)
      | 3 => SP.eq (.bool true)
      | _ => SP.any) 5 (by kernel_rfl) 8 rfl (by kernel_rfl) ?_ ?_
    · skip
      refine ⟨?_, ?_, ?_, ?_, ?_, trivial⟩
      · intro act W2 hk
        refine Flow.does_intro rfl (fun Kq hK => ?_)
        have e2 : act.tmps[2]?.getD undef = .pointer (some ⟨pA, 0, none⟩) := hk.o 2 (by kernel_rfl)
        have g := ((kA.out).ext ((Ext.drew W).trans hk.ext)).cell
        clear hk
        go_simp
        exact hK _ _ (Ext.refl _) (fun d hd => by cases hd; rfl)
      · intro act W2 hk
        refine Flow.does_intro rfl (fun Kq hK => ?_)
        have e4 : act.tmps[4]?.getD undef = .agg #[.string x.name, .string x.key, .int .i64 x.kind, .int .u64 x.num, .string x.text, .slice K x.kids.length c] := hk.v 4 (by kernel_rfl)
        clear hk
        go_simp
        refine Calls.mono (hs1.out _) ?_
        rintro e W3 ⟨rfl, hx⟩
        exact hK _ _ hx (fun d hd => by cases hd; rfl)
      · intro act W2 hk
        refine Flow.does_intro rfl (fun Kq hK => ?_)
        have e1 : act.tmps[1]?.getD undef = .pointer (some ⟨p, 0, none⟩) := hk.o 1 (by kernel_rfl)
        have g := ((kP.out).ext ((Ext.drew W).trans hk.ext)).cell
        clear hk
        go_simp
        exact hK _ _ (Ext.refl _) (fun d hd => by cases hd; rfl)
      · intro act W2 hk
        refine Flow.does_intro rfl (fun Kq hK => ?_)
        have e5 : act.tmps[5]?.getD undef = .agg #[.string x.name, .string x.key] := hk.v 5 (by kernel_rfl)
        have e6 : act.tmps[6]?.getD undef = .agg #[.string x.name, .string x.key] := hk.v 6 (by kernel_rfl)
        clear hk
        go_simp
        exact hK _ _ (Ext.refl _) (fun d hd => by cases hd; rfl)
      · intro act W2 hk
        refine Flow.does_intro rfl (fun Kq hK => ?_)
        have e7 : act.tmps[7]?.getD undef = .bool true := hk.v 7 (by kernel_rfl)
        clear hk
        go_simp
        exact hK _ _ (Ext.refl _) (fun d hd => by cases hd; rfl)
    · intro act W2 he
      have hxW2 := Hd.mk ((Ext.drew W).trans he.ext)
      obtain ⟨us, hA, hF⟩ := he.out [4, 5, 6, 7, 3] (by kernel_rfl)
      simp only [Flow.fillL, List.contains_cons, List.contains_nil, Nat.reduceBEq, Bool.or_false, Bool.false_or, Bool.or_true, Bool.true_or, ↓reduceIte, Nat.reduceAdd, Bool.false_eq_true] at hA
      subst hA
      have f3 : us 3 = .bool true := hF 3 (by simp)
      clear hF he
      rw [f3]
      clear f3
      refine (show wpList _ _ _ [] _ _ from ?_)
      go_wp2_with fail
      go_ret
      exact ⟨rfl, kx.out.trans hxW2.out⟩
  · have hr2 : r = false := by rw [← hr.out]; simp only [stepT, Prod.mk.injEq, decide_eq_false_iff_not]; exact h1
    subst hr2
    have hv := Hd.mk (not2 h1)
    clear hr sN sK h1
    refine Flow.wp_region_flow_l (fun qq => match qq with
      | 4 => SP.eq (.agg #[.string x.name, .string x.key, .int .i64 x.kind, .int .u64 x.num, .string x.text, .slice K x.kids.length c])
      | 5 => SP.eq (.agg #[.string x.name, .string x.key])
      | 6 => SP.eq (.agg #[.string s1, .string s2])
      | 7 => SP.eq (.bool false)
      | 3 => SP.eq (.bool false)
      | _ => SP.any) 5 (by kernel_rfl) 8 rfl (by kernel_rfl) ?_ ?_
    · skip
      refine ⟨?_, ?_, ?_, ?_, ?_, trivial⟩
      · intro act W2 hk
        refine Flow.does_intro rfl (fun Kq hK => ?_)
        have e2 : act.tmps[2]?.getD undef = .pointer (some ⟨pA, 0, none⟩) := hk.o 2 (by kernel_rfl)
        have g := ((kA.out).ext ((Ext.drew W).trans hk.ext)).cell
        clear hk
        go_simp
        exact hK _ _ (Ext.refl _) (fun d hd => by cases hd; rfl)
      · intro act W2 hk
        refine Flow.does_intro rfl (fun Kq hK => ?_)
        have e4 : act.tmps[4]?.getD undef = .agg #[.string x.name, .string x.key, .int .i64 x.kind, .int .u64 x.num, .string x.text, .slice K x.kids.length c] := hk.v 4 (by kernel_rfl)
        clear hk
        go_simp
        refine Calls.mono (hs1.out _) ?_
        rintro e W3 ⟨rfl, hx⟩
        exact hK _ _ hx (fun d hd => by cases hd; rfl)
      · intro act W2 hk
        refine Flow.does_intro rfl (fun Kq hK => ?_)
        have e1 : act.tmps[1]?.getD undef = .pointer (some ⟨p, 0, none⟩) := hk.o 1 (by kernel_rfl)
        have g := ((kP.out).ext ((Ext.drew W).trans hk.ext)).cell
        clear hk
        go_simp
        exact hK _ _ (Ext.refl _) (fun d hd => by cases hd; rfl)
      · intro act W2 hk
        refine Flow.does_intro rfl (fun Kq hK => ?_)
        have e5 : act.tmps[5]?.getD undef = .agg #[.string x.name, .string x.key] := hk.v 5 (by kernel_rfl)
        have e6 : act.tmps[6]?.getD undef = .agg #[.string s1, .string s2] := hk.v 6 (by kernel_rfl)
        clear hk
        skip
        rcases hv.out with q | ⟨q1, q⟩
        all_goals go_simp
        all_goals exact hK _ _ (Ext.refl _) (fun d hd => by cases hd; rfl)
      · intro act W2 hk
        refine Flow.does_intro rfl (fun Kq hK => ?_)
        have e7 : act.tmps[7]?.getD undef = .bool false := hk.v 7 (by kernel_rfl)
        clear hk
        go_simp
        exact hK _ _ (Ext.refl _) (fun d hd => by cases hd; rfl)
    · intro act W2 he
      have hxW2 := Hd.mk ((Ext.drew W).trans he.ext)
      obtain ⟨us, hA, hF⟩ := he.out [4, 5, 6, 7, 3] (by kernel_rfl)
      simp only [Flow.fillL, List.contains_cons, List.contains_nil, Nat.reduceBEq, Bool.or_false, Bool.false_or, Bool.or_true, Bool.true_or, ↓reduceIte, Nat.reduceAdd, Bool.false_eq_true] at hA
      subst hA
      have f3 : us 3 = .bool false := hF 3 (by simp)
      clear hF he
      rw [f3]
      clear f3
      refine (show wpList _ _ _ [] _ _ from ?_)
      go_wp2_with fail
      go_ret
      exact ⟨rfl, kx.out.trans hxW2.out⟩
theorem nodes_index (l : List T) (s : Step) (S : Nat → Prop) (w : World) (K : Option Addr) (c p : Nat) (hr : RRow S w K l c) (hp : Blk w p [.string s.1, .string s.2] 65) :
    Calls Try.prog 149 #[.slice K l.length c, .func (.func 150) #[] #[.pointer (some ⟨p, 0, none⟩)]] w fun e w' => e = .returned (.int .i64 (findT l s)) ∧ Ext w w' := by
  have kr := Hd.mk hr
  have hl := hr.len
  have kP := Hd.mk hp
  clear hp hr
  generalize hr : findT l s = r
  replace hr := Hd.mk (show r = findAt (l.drop 0) s 0 from hr.symm)
  go_enter Try.func149, Try.ntmps149
  go_wp2_with fail
  go_loopg [8] (l.length + 1) (fun q i wr => ∃ j : Nat, j ≤ l.length ∧ Hd (q = l.length + 1 - j) ∧ i = .int .i64 j ∧ Hd (r = findAt (l.drop j) s j) ∧ Hd (Ext w wr))
  case atStart => exact ⟨0, by omega, ⟨by omega⟩, rfl, hr, ⟨Ext.refl _⟩⟩
  case round =>
  obtain ⟨j, hj, hq, rfl, hI, hxr⟩ := hrel
  by_cases hlt : j < l.length
  · have hx1 := List.getElem?_eq_getElem hlt
    generalize l[j] = x at hx1
    obtain ⟨b1, o1, ck, rfl, _, hrk, hck⟩ := kr.out.kid j x hx1
    obtain ⟨K3, c3, rfl, _⟩ := hrk.row
    have hdrop := Hd.mk (hI.out.trans (findAt_drop hx1 s))
    obtain ⟨e0, e1, e2, e3, e4, e5⟩ := six hxr.out hck
    have hcall := Hd.mk (fun W' (h : Ext w W') => find_one x s K3 c3 p W' (kP.out.ext h))
    clear hck hrk hx1 hI
    go_wp2_with fail
    refine Calls.mono (hcall.out _ hxr.out) ?_
    rintro e w2 ⟨rfl, hx⟩
    have hxr2 := Hd.mk (hxr.out.trans hx)
    clear hcall e0 e1 e2 e3 e4 e5 hxr hx
    by_cases hs : stepT x = s
    · have hr0 := hdrop.out
      rw [if_pos hs] at hr0
      subst hr0
      rw [decide_eq_true hs]
      clear hdrop hs
      go_wp2_with fail
      go_ret
      exact ⟨rfl, hxr2.out⟩
    · have hr0 := Hd.mk (show r = findAt (l.drop (j + 1)) s (j + 1) by rw [hdrop.out, if_neg hs])
      rw [decide_eq_false hs]
      clear hdrop hs
      go_wp2_with fail
      go_roundg (l.length + 1 - (j + 1))
      case measure => have := hq.out; omega
      case rel => exact ⟨j + 1, by omega, ⟨rfl⟩, by go_num, hr0, hxr2⟩
  · have hjl : j = l.length := by omega
    have hr0 : r = -1 := by rw [hI.out, hjl, List.drop_length]; rfl
    subst hr0
    clear hI hjl
    go_wp2_with fail
    go_ret
    exact ⟨rfl, hxr.out⟩
set_option maxRecDepth 100000 in
set_option maxHeartbeats 2000000 in
theorem tree_find (t : T) (s : Step) (S : Nat → Prop) (w : World) (b o : Nat) (c : List Value) (h : RT S w t c) (hc : ∀ (q : Nat) v, c[q]? = some v → w.cell? ⟨b, o + q, none⟩ = some v) :
    Calls Try.prog 121 #[.pointer (some ⟨b, o, none⟩), .agg #[.string s.1, .string s.2]] w fun e w' => e = .returned (.int .i64 (findT t.kids s)) ∧ Ext w w' := by
  obtain ⟨K, kc, rfl, hrow⟩ := h.row
  obtain ⟨s1, s2⟩ := s
  obtain ⟨e0, e1, e2, e3, e4, e5⟩ := six (Ext.alloc w (.cells #[.string s1, .string s2] 65)) hc
  have lt1 := World.block_lt_of_cell? _ _ e0
  have kr := Hd.mk hrow
  clear hrow h hc
  go_enter Try.func121, Try.ntmps121
  go_wp2_with fail
  have kx := Hd.mk (Ext.alloc w (.cells #[.string s1, .string s2] 65))
  have kP := Hd.mk (Blk.new w #[.string s1, .string s2] 65)
  generalize w.heap.size = pP at *
  generalize w.alloc _ = W at *
  refine Calls.mono (nodes_index t.kids (s1, s2) S W K kc pP (kr.out.ext kx.out) kP.out) ?_
  rintro e w2 ⟨rfl, hx⟩
  have kx2 := Hd.mk (kx.out.trans hx)
  clear hx kx kP e0 e1 e2 e3 e4 e5
  go_wp2_with fail
  go_ret
  exact ⟨rfl, kx2.out⟩
def Pth (w : World) : Nat → Nat → T → List Step → Nat → Nat → Prop
  | b0, o0, _, [], b, o => b = b0 ∧ o = o0
  | b0, o0, t, s :: r, b, o => ∃ (i : Nat) (k : T) (g f n c : Nat), findT t.kids s = (i : Int) ∧ t.kids[i]? = some k ∧ w.cell? ⟨b0, o0 + 5, none⟩ = some (.slice (some ⟨g, f, none⟩) n c) ∧ Pth w g (f + i * 6) k r b o
theorem findT_kid (l : List T) (s : Step) : (findT l s = -1 ∧ kid l s = none) ∨ ∃ (i : Nat) (x : T), findT l s = (i : Int) ∧ l[i]? = some x ∧ kid l s = some x ∧ (∀ y, repL l s y = l.set i y) ∧ cutL l s = l.eraseIdx i := by
  rcases findT_spec l s with ⟨h1, h2⟩ | ⟨i, x, h1, h2, h3, h4⟩
  · exact .inl ⟨h1, kid_none.2 h2⟩
  · obtain ⟨hlt, hx⟩ := List.getElem?_eq_some_iff.1 h2
    have hl : l = l.take i ++ x :: l.drop (i + 1) := by rw [← hx, ← List.drop_eq_getElem_cons hlt, List.take_append_drop]
    have hp : ∀ p ∈ l.take i, stepT p ≠ s := fun p hp => by
      obtain ⟨k, hk⟩ := List.getElem?_of_mem hp
      have hki : k < i := by have := (List.getElem?_eq_some_iff.1 hk).1; simp at this; omega
      rw [List.getElem?_take, if_pos hki] at hk
      exact h4 k p hki hk
    refine .inr ⟨i, x, h1, h2, ?_, fun y => ?_, ?_⟩
    · rw [hl]; exact kid_at hp h3
    · conv => lhs; rw [hl]
      rw [rep_at hp h3, List.set_eq_take_append_cons_drop, if_pos hlt]
    · conv => lhs; rw [hl]
      rw [cut_at hp h3, List.eraseIdx_eq_take_drop_succ]
set_option maxRecDepth 100000 in
set_option maxHeartbeats 4000000 in
theorem tree_at (t : T) (way : List Step) (S S' : Nat → Prop) (w : World) (b o : Nat) (c : List Value) (A : Option Addr) (ac : Nat) (h : RT S w t c) (hc : ∀ (q : Nat) v, c[q]? = some v → w.cell? ⟨b, o + q, none⟩ = some v) (hw : WRow S' w A way ac) :
    Calls Try.prog 120 #[.pointer (some ⟨b, o, none⟩), .slice A way.length ac] w fun e w' => Ext w w' ∧
      ((getT t way = none ∧ e = .returned (.pointer none)) ∨ ∃ u bu ou, getT t way = some u ∧ e = .returned (.pointer (some ⟨bu, ou, none⟩)) ∧ Pth w b o t way bu ou) := by
  have kw := Hd.mk hw
  have hl := hw.len
  have h0 := Hd.mk (show ∃ (tj : T) (cj : List Value), RT S w tj cj ∧ (∀ (q : Nat) v, cj[q]? = some v → w.cell? ⟨b, o + q, none⟩ = some v) ∧ getT t way = getT tj (way.drop 0) ∧ ∀ bu ou, Pth w b o tj (way.drop 0) bu ou → Pth w b o t way bu ou from ⟨t, c, h, hc, rfl, fun _ _ h => h⟩)
  clear h hc hw
  go_enter Try.func120, Try.ntmps120
  go_wp2_with fail
  go_loopg [0, 10] (way.length + 1) (fun q p0 i wr => ∃ (j bj oj : Nat), j ≤ way.length ∧ Hd (q = way.length + 1 - j) ∧ p0 = .pointer (some ⟨bj, oj, none⟩) ∧ i = .int .i64 j ∧ Hd (Ext w wr) ∧
    Hd (∃ (tj : T) (cj : List Value), RT S w tj cj ∧ (∀ (q : Nat) v, cj[q]? = some v → w.cell? ⟨bj, oj + q, none⟩ = some v) ∧ getT t way = getT tj (way.drop j) ∧ ∀ bu ou, Pth w bj oj tj (way.drop j) bu ou → Pth w b o t way bu ou))
  case atStart => exact ⟨0, b, o, by omega, ⟨by omega⟩, rfl, rfl, ⟨Ext.refl _⟩, h0⟩
  case round =>
  obtain ⟨j, bj, oj, hj, hq, rfl, rfl, hxr, hI⟩ := hrel
  obtain ⟨tj, cj, hrt, hcj, hget, hpth⟩ := hI.out
  clear hI h0
  obtain ⟨K, kc, rfl, hrow⟩ := hrt.row
  by_cases hlt : j < way.length
  · have hs1 := List.getElem?_eq_getElem hlt
    have hdr := List.drop_eq_getElem_cons hlt
    generalize way[j] = s at hs1 hdr
    obtain ⟨b2, o2, rfl, _, hdk⟩ := WRow.at kw.out hs1
    obtain ⟨d0, d1⟩ := twoC hxr.out hdk
    obtain ⟨e0, e1, e2, e3, e4, e5⟩ := six hxr.out hcj
    have lt1 := World.block_lt_of_cell? wr _ e0
    rw [hdr] at hget hpth
    have hfind := Hd.mk (fun W (h : Ext w W) => tree_find tj s S W bj oj _ (hrt.ext h) (fun q v hv => Ext.cell h (hcj q v hv)))
    have h5 := Hd.mk (hcj 5 _ rfl)
    have hget := Hd.mk hget
    have hpth := Hd.mk hpth
    have hrow := Hd.mk hrow
    have hrt := Hd.mk hrt
    clear hcj hdk hs1 hdr
    go_wp2_with fail
    have kxB := Hd.mk (hxr.out.trans (Ext.alloc wr (.cells #[.string s.1, .string s.2] 65)))
    refine Calls.mono (hfind.out _ kxB.out) ?_
    rintro e w2 ⟨rfl, hx⟩
    have kx2 := Hd.mk (kxB.out.trans hx)
    have e5' := Hd.mk (Ext.cell kx2.out h5.out)
    have lt2 := Nat.lt_of_lt_of_le lt1 (Nat.le_trans (Ext.alloc wr (.cells #[.string s.1, .string s.2] 65)).size hx.size)
    clear hx e0 e1 e2 e3 e4 e5 d0 d1 hfind kxB hxr
    rcases findT_kid tj.kids s with ⟨hf, hk⟩ | ⟨i, k, hf, hi, hk, _⟩
    · rw [hf]
      have hnone : getT t way = none := by rw [hget.out, getT_cons, hk]; rfl
      clear hget hpth hf hk
      go_wp2_with fail
      go_ret
      exact ⟨kx2.out, .inl ⟨hnone, rfl⟩⟩
    · have hkl := (List.getElem?_eq_some_iff.1 hi).1
      obtain ⟨g, f, ck, rfl, _, hrk, hck⟩ := hrow.out.kid i k hi
      have hfi := Hd.mk hf
      rw [hf]
      have hnext := Hd.mk (show ∃ (tj : T) (cj : List Value), RT S w tj cj ∧ (∀ (q : Nat) v, cj[q]? = some v → w.cell? ⟨g, f + i * 6 + q, none⟩ = some v) ∧ getT t way = getT tj (way.drop (j + 1)) ∧ ∀ bu ou, Pth w g (f + i * 6) tj (way.drop (j + 1)) bu ou → Pth w b o t way bu ou from
        ⟨k, ck, hrk, hck, by rw [hget.out, getT_cons, hk]; rfl, fun bu ou hp => hpth.out bu ou ⟨i, k, g, f, _, _, hf, hi, h5.out, hp⟩⟩)
      have gB := e5'.out
      have hil : (i : Int) < (tj.kids.length : Int) := by omega
      clear hget hpth hf hk hrk hck hrow hrt hi
      go_wp2_with fail
      go_roundg (way.length + 1 - (j + 1))
      case measure => have := hq.out; omega
      case rel => exact ⟨j + 1, g, f + i * 6, by omega, ⟨rfl⟩, rfl, by go_num, kx2, hnext⟩
  · have hjl : j = way.length := by omega
    subst hjl
    rw [List.drop_length] at hget hpth
    have hget := Hd.mk hget
    have hpth := Hd.mk hpth
    clear hcj hrt
    go_wp2_with fail
    go_ret
    exact ⟨hxr.out, .inr ⟨tj, bj, oj, hget.out, rfl, hpth.out bj oj ⟨rfl, rfl⟩⟩⟩
end Go.Proofs.Ytgkgedjmnbjalaa
set_option linter.unusedSimpArgs false
namespace Go.Proofs.Ytgkgedjmnbjalaa
open Go.RowKit Go.Sort
section
variable {P : Program} {w : World} {T E : TypeId} {sz by_ : Nat}
theorem run_copy_sz (hT : SlT P T E sz by_) (T' ty : TypeId) (g o dLen dCap : Nat) (a : Addr) (sLen sCap : Nat) (cur : List Value) (t : TypeId) (cs : List Value) (hg : Blk w g cur t)
    (hn : cs.length = Nat.min sLen dLen * sz) (hsrc : ∀ j v, cs[j]? = some v → w.cell? (a.add j) = some v) (hfit : o + cs.length ≤ cur.length) (h1 : cs.all (·.oneCell') = true) :
    (Builtin.copy_ #[T, T'] ty #[.slice (some ⟨g, o, none⟩) dLen dCap, .slice (some a) sLen sCap]).run P w = .ok (goInt (Nat.min sLen dLen)) (w.setRow g (cur.take o ++ cs ++ cur.drop (o + cs.length)).toArray) := by
  obtain ⟨ht, i, z, hi, hz, hz1, hz2, hz3⟩ := hT
  have hl := run_loadCells_list (P := P) w a cs hsrc
  rw [hn] at hl
  have hst := run_storeCells_at P g o t cs 0 cur.toArray w hg (by simpa using hfit) (by rw [List.all_eq_true] at h1; exact h1)
  subst hz1
  simp [Builtin.copy_, run_underlying ht, Builtin.lenOf, Builtin.firstCells, sizeOf, typeInfo, hi, hl, hst]
theorem wpl_copy {ops : Array Oper} {rest : List Oper} {a : Act} {Q : Exit → Act → World → Prop} (hT : SlT P T E sz by_) (x y : Operand) (d : Option Tmp) (T' p1 : TypeId) (p2 : String) (p3 : Array Edge)
    (g o dLen dCap : Nat) (hx : a.eval x = .slice (some ⟨g, o, none⟩) dLen dCap) (ad : Addr) (sLen sCap : Nat) (hy : a.eval y = .slice (some ad) sLen sCap) (cur : List Value) (t : TypeId) (cs : List Value) (hg : Blk w g cur t)
    (hn : cs.length = Nat.min sLen dLen * sz) (hsrc : ∀ j v, cs[j]? = some v → w.cell? (ad.add j) = some v) (hfit : o + cs.length ≤ cur.length) (h1 : cs.all (·.oneCell') = true)
    (h : ∀ w', Upd w w' g → Blk w' g (cur.take o ++ cs ++ cur.drop (o + cs.length)) t → wpList P ops Q rest (a.put d (goInt (Nat.min sLen dLen))) w') :
    wpList P ops Q (⟨d, .call { callee := .builtin .copy, args := #[x, y], argTypes := #[T, T'] }, p1, p2, p3, none⟩ :: rest) a w := by
  refine wpList_plain rfl fun K hK => ?_
  have hrun := run_copy_sz (P := P) hT T' p1 g o dLen dCap ad sLen sCap cur t cs hg hn hsrc hfit h1
  unfold Oper.wp execOp
  simp only [resolve, invoke, builtin, Sem.run_bind, Sem.run_pure, Result.andThen_ok, List.map_toArray, List.map_cons, List.map_nil, hx, hy, hrun]
  exact hK _ _ (h _ (Upd.setRow w g _) (by have := hg.setRow (cur.take o ++ cs ++ cur.drop (o + cs.length)).toArray; simpa using this))
theorem wpl_append_room {ops : Array Oper} {rest : List Oper} {a : Act} {Q : Exit → Act → World → Prop} (hT : SlT P T E sz by_) (x y : Operand) (d : Tmp) (p1 : TypeId) (p2 : String) (p3 : Array Edge)
    (g sLen sCap : Nat) (hx : a.eval x = .slice (some ⟨g, 0, none⟩) sLen sCap) (ad : Addr) (m c : Nat) (hy : a.eval y = .slice (some ad) m c) (cur : List Value) (news : List Value) (hg : Blk w g cur E)
    (hl : news.length = m * sz) (hsrc : ∀ j v, news[j]? = some v → w.cell? (ad.add j) = some v) (hroom : sLen + m ≤ sCap) (hfit : sLen * sz + news.length ≤ cur.length) (h1 : news.all (·.oneCell') = true)
    (h : ∀ w', Upd w w' g → Blk w' g (cur.take (sLen * sz) ++ news ++ cur.drop (sLen * sz + news.length)) E → wpList P ops Q rest (a.put (some d) (.slice (some ⟨g, 0, none⟩) (sLen + m) sCap)) w') :
    wpList P ops Q (⟨some d, .call { callee := .builtin .append, args := #[x, y], argTypes := #[T, T] }, p1, p2, p3, none⟩ :: rest) a w := by
  obtain ⟨ht, i, z, hi, hz, hz1, hz2, hz3⟩ := hT
  subst hz1
  refine wpList_plain rfl fun K hK => ?_
  have hrun := run_append_room (P := P) w T p1 E i ht hi g sLen sCap cur.toArray hg ad m c news hl hsrc (by rw [List.all_eq_true] at h1; exact h1) hroom (by simpa using hfit)
  unfold Oper.wp execOp
  simp only [resolve, invoke, builtin, Sem.run_bind, Sem.run_pure, Result.andThen_ok, List.map_toArray, List.map_cons, List.map_nil, hx, hy, hrun]
  exact hK _ _ (h _ (Upd.setRow w g _) (by have := hg.setRow (cur.take (sLen * i.size) ++ news ++ cur.drop (sLen * i.size + news.length)).toArray; simpa using this))
theorem wpl_append_zeros {ops : Array Oper} {rest : List Oper} {a : Act} {Q : Exit → Act → World → Prop} (hT : SlT P T E sz by_) (hsz : 0 < sz) (hby : 0 < by_) {tn : TypeId} {kn : IntKind} (htn : P.underlying tn = some (.int kn)) (x y : Operand) (d : Tmp) (p1 : TypeId) (p2 : String) (p3 : Array Edge)
    (ad : Addr) (sLen sCap : Nat) (hx : a.eval x = .slice (some ad) sLen sCap) (kq : IntKind) (k : Nat) (hy : a.eval y = .int kq k) (olds : List Value) (hl : olds.length = sLen * sz) (hold : ∀ j v, olds[j]? = some v → w.cell? (ad.add j) = some v)
    (h0 : 0 < k) (hg : sCap < sLen + k) (hbytes : (sLen + k) * by_ ≤ 140737488355328)
    (h : ∀ cap sp w', Ext w w' → w.heap.size < w'.heap.size → Blk w' w.heap.size (olds ++ sp) E → (olds ++ sp).length = cap * sz → sLen + k ≤ cap → cap ≤ maxLen → wpList P ops Q rest (a.put (some d) (.slice (some ⟨w.heap.size, 0, none⟩) (sLen + k) cap)) w') :
    wpList P ops Q (⟨some d, .call { callee := .builtin .append, args := #[x, y], argTypes := #[T, tn] }, p1, p2, p3, none⟩ :: rest) a w := by
  obtain ⟨ht, i, z, hi, hz, hz1, hz2, hz3⟩ := hT
  subst hz1 hz2
  have hle : sLen + k ≤ 140737488355328 := Nat.le_trans (Nat.le_mul_of_pos_right _ hby) hbytes
  have hkb : k * i.bytes ≤ 281474976710656 := by
    have h1 : k * i.bytes ≤ (sLen + k) * i.bytes := Nat.mul_le_mul_right _ (by omega)
    omega
  refine wpList_plain rfl fun K hK => ?_
  have hld : (Builtin.firstCells i.size sLen (.slice (some ad) sLen sCap)).run P w.drew = .ok olds.toArray w.drew := by
    have := run_loadCells_list (P := P) w.drew ad olds hold
    rw [hl] at this
    simpa [Builtin.firstCells] using this
  have hrun := Lib.run_append_grow_zeros (P := P) w T tn p1 E i z kq kn ht htn hi hz (some ad) sLen sCap olds hld k h0 hsz hg (by omega) hkb (growslice_fits hg hbytes)
  unfold Oper.wp execOp
  simp only [resolve, invoke, builtin, Sem.run_bind, Sem.run_pure, Result.andThen_ok, List.map_toArray, List.map_cons, List.map_nil, hx, hy, hrun]
  refine hK _ _ (h _ ((Builtin.zeroCells z.cells k).toList ++ (Builtin.zeroCells z.cells (grownCap w (sLen + k) sCap E - (sLen + k))).toList) _ ((Ext.drew w).trans (Ext.alloc _ _)) (by simp) ?_ ?_ (grownCap_ge _ _ _ _) (grownCap_le_maxLen _ _ _ _ (by simp only [maxLen]; omega)))
  · have := Blk.new w.drew (olds.toArray ++ Builtin.zeroCells z.cells k ++ Builtin.zeroCells z.cells (grownCap w (sLen + k) sCap E - (sLen + k))) E
    simpa using this
  · have hge := grownCap_ge w (sLen + k) sCap E
    simp only [List.length_append, Array.length_toList, size_zeroCells, hl, hz3, ← Nat.add_mul]
    congr 1
    omega
theorem wpl_clear {ops : Array Oper} {rest : List Oper} {a : Act} {Q : Exit → Act → World → Prop} (hT : SlT P T E sz by_) (x : Operand) (d : Option Tmp) (p1 : TypeId) (p2 : String) (p3 : Array Edge)
    (g o n c : Nat) (hx : a.eval x = .slice (some ⟨g, o, none⟩) n c) (hn : 0 < n) (cur : List Value) (t : TypeId) (hg : Blk w g cur t) (hfit : o + n * sz ≤ cur.length) (h1 : ∀ z i, P.info? E = some i → i.zero = some z → (Builtin.zeroCells z.cells n).toList.all (·.oneCell') = true)
    (h : ∀ w' zs, zs.length = n * sz → Upd w w' g → Blk w' g (cur.take o ++ zs ++ cur.drop (o + n * sz)) t → wpList P ops Q rest (a.put d (.tuple #[])) w') :
    wpList P ops Q (⟨d, .call { callee := .builtin .clear, args := #[x], argTypes := #[T] }, p1, p2, p3, none⟩ :: rest) a w := by
  obtain ⟨ht, i, z, hi, hz, hz1, hz2, hz3⟩ := hT
  subst hz1
  have h1' := h1 z i hi hz
  have hzl : (Builtin.zeroCells z.cells n).toList.length = n * i.size := by rw [Array.length_toList, size_zeroCells, hz3]
  obtain ⟨n, rfl⟩ : ∃ n', n = n' + 1 := ⟨n - 1, by omega⟩
  refine wpList_plain rfl fun K hK => ?_
  have hst := run_storeCells_at P g o t (Builtin.zeroCells z.cells (n + 1)).toList 0 cur.toArray w hg (by rw [hzl]; simpa using hfit) (by rw [List.all_eq_true] at h1'; exact h1')
  have hrun : (Builtin.clear_ #[T] p1 #[.slice (some ⟨g, o, none⟩) (n + 1) c]).run P w = .ok (.tuple #[]) (w.setRow g (cur.take o ++ (Builtin.zeroCells z.cells (n + 1)).toList ++ cur.drop (o + (n + 1) * i.size)).toArray) := by
    simp only [Nat.add_zero, hzl] at hst
    simp [Builtin.clear_, run_underlying ht, zeroValue, typeInfo, hi, hz, hst]
  unfold Oper.wp execOp
  simp only [resolve, invoke, builtin, Sem.run_bind, Sem.run_pure, Result.andThen_ok, List.map_toArray, List.map_cons, List.map_nil, hx, hrun]
  exact hK _ _ (h _ _ hzl (Upd.setRow w g _) (by have := hg.setRow (cur.take o ++ (Builtin.zeroCells z.cells (n + 1)).toList ++ cur.drop (o + (n + 1) * i.size)).toArray; simpa using this))
end
theorem zero54 : ∀ z i, Try.prog.info? 54 = some i → i.zero = some z → (Builtin.zeroCells z.cells 1).toList.all (·.oneCell') = true := by
  have h : (Try.prog.info? 54).map (fun i => i.zero.map fun z => (Builtin.zeroCells z.cells 1).toList.all (·.oneCell')) = some (some true) := by kernel_rfl
  intro z i hi hz
  simpa [hi, hz] using h
end Go.Proofs.Ytgkgedjmnbjalaa
set_option linter.unusedSimpArgs false
namespace Go.Proofs.Ytgkgedjmnbjalaa
open Go.RowKit Go.Sort
def OwnPost (t : T) (w w' : World) (v : Value) : Prop := ∃ c : List Value, v = .agg c.toArray ∧ OT (fun b => w.heap.size ≤ b ∧ b < w'.heap.size) w' t c ∧ Ext w w'
def spO (k : T) (B : Nat) : SP := ⟨fun v w => ∃ (c : List Value) (lo hi : Nat), v = .agg c.toArray ∧ OT (fun b => lo ≤ b ∧ b < hi) w k c ∧ B ≤ lo ∧ hi ≤ w.heap.size, fun _ _ _ h ⟨c, lo, hi, e, hr, h1, h2⟩ => ⟨c, lo, hi, e, hr.ext (fun b hb => by omega) h, h1, Nat.le_trans h2 h.size⟩⟩
def Turned2 (S : Nat → Prop) (w : World) (kids : List T) (A : Option Addr) (cap j B N : Nat) (wr : World) : Prop :=
  ∃ (css : List (List Value)) (Si : Nat → Nat → Prop), css.length = kids.length ∧ (∀ c ∈ css, c.length = 6) ∧ wr.ownsRow B 54 6 (.slice A kids.length cap) kids.length css.flatten ∧
    (∀ i b, Si i b → B ≤ b ∧ b < N ∧ b < wr.heap.size ∧ (Value.slice A kids.length cap).ownBlock ≠ some b) ∧ (∀ i i' b, Si i b → Si i' b → i = i') ∧
    ∀ (i : Nat) k c, kids[i]? = some k → css[i]? = some c → (i < j → OT (Si i) wr k c) ∧ (j ≤ i → RT S w k c)
theorem Turned2.start {S : Nat → Prop} {w wr : World} {kids : List T} {css : List (List Value)} {A : Option Addr} {cap B N : Nat} (h1 : css.length = kids.length) (h2 : ∀ c ∈ css, c.length = 6) (h3 : ∀ (i : Nat) k c, kids[i]? = some k → css[i]? = some c → RT S w k c)
    (h4 : wr.ownsRow B 54 6 (.slice A kids.length cap) kids.length css.flatten) : Turned2 S w kids A cap 0 B N wr :=
  ⟨css, fun _ _ => False, h1, h2, h4, fun _ _ h => h.elim, fun _ _ _ h => h.elim, fun i k c hk hc => ⟨fun h => absurd h (by omega), fun _ => h3 i k c hk hc⟩⟩
theorem Turned2.bound {S : Nat → Prop} {w wr : World} {kids : List T} {A : Option Addr} {cap j B N N' : Nat} (hN : N ≤ N') (h : Turned2 S w kids A cap j B N wr) : Turned2 S w kids A cap j B N' wr := by
  obtain ⟨css, Si, h1, h2, h3, h4, h5, h6⟩ := h
  exact ⟨css, Si, h1, h2, h3, fun i b hb => ⟨(h4 i b hb).1, by have := (h4 i b hb).2.1; omega, (h4 i b hb).2.2⟩, h5, h6⟩
theorem Turned2.ext {S : Nat → Prop} {w wr w' : World} {kids : List T} {A : Option Addr} {cap j B N : Nat} (hx : Ext wr w') (h : Turned2 S w kids A cap j B N wr) : Turned2 S w kids A cap j B N w' := by
  obtain ⟨css, Si, h1, h2, h3, h4, h5, h6⟩ := h
  refine ⟨css, Si, h1, h2, own_ext hx h3, fun i b hb => ?_, h5, fun i k c hk hc => ⟨fun hij => ((h6 i k c hk hc).1 hij).ext (fun b hb => (h4 i b hb).2.2.1) hx, (h6 i k c hk hc).2⟩⟩
  obtain ⟨a, b', c, d⟩ := h4 i b hb
  exact ⟨a, b', Nat.lt_of_lt_of_le c hx.size, d⟩
theorem Turned2.upd {S : Nat → Prop} {w wr w' : World} {kids : List T} {A : Option Addr} {cap j B N p : Nat} (hu : Upd wr w' p) (hp : p < B) (h : Turned2 S w kids A cap j B N wr) : Turned2 S w kids A cap j B N w' := by
  obtain ⟨css, Si, h1, h2, h3, h4, h5, h6⟩ := h
  refine ⟨css, Si, h1, h2, own_keep h3 fun g hg => hu.block g (fun e => ?_), fun i b hb => ?_, h5, fun i k c hk hc => ⟨fun hij => ((h6 i k c hk hc).1 hij).keep fun b hb => hu.block b (fun e => ?_), (h6 i k c hk hc).2⟩⟩
  · subst e
    have := own_base h3 g hg
    omega
  · obtain ⟨a, b', c, d⟩ := h4 i b hb
    exact ⟨a, b', by rw [hu.size]; exact c, d⟩
  · subst e
    have := (h4 i b hb).1
    omega
theorem Turned2.at {S : Nat → Prop} {w wr : World} {kids : List T} {A : Option Addr} {cap j B N : Nat} {k : T} (hk : kids[j]? = some k) (h : Turned2 S w kids A cap j B N wr) :
    ∃ g cs d, A = some ⟨g, 0, none⟩ ∧ B ≤ g ∧ Blk wr g cs 54 ∧ kids.length * 6 ≤ cs.length ∧ (∀ q v, d[q]? = some v → cs[j * 6 + q]? = some v) ∧ RT S w k d := by
  obtain ⟨css, Si, h1, h2, h3, h4, h5, h6⟩ := h
  have hlt := (List.getElem?_eq_some_iff.1 hk).1
  obtain ⟨g, c', sp, hv, hB, hb, _⟩ := own_form h3 (by omega)
  simp only [Value.slice.injEq] at hv
  obtain ⟨rfl, _, rfl⟩ := hv
  have hjl : j < css.length := by omega
  have hci := List.getElem?_eq_getElem hjl
  refine ⟨g, _, css[j], rfl, hB, hb, by rw [List.length_append, flatten_len css h2, h1]; omega, fun q v hq => ?_, (h6 j k _ hk hci).2 (Nat.le_refl _)⟩
  have := flatten_get css h2 j _ hci q v hq
  rw [List.getElem?_append_left (List.getElem?_eq_some_iff.1 this).1]
  exact this
theorem Turned2.step {S : Nat → Prop} {w wr w' : World} {kids : List T} {cap j B N lo hi g : Nat} {cs cs' : List Value} {k : T} {d : List Value} (hk : kids[j]? = some k) (h : Turned2 S w kids (some ⟨g, 0, none⟩) cap j B N wr)
    (hcs : Blk wr g cs 54) (hu : Upd wr w' g) (hb : Blk w' g cs' 54) (hl : cs'.length = cs.length) (ho : ∀ p, p < j * 6 ∨ j * 6 + 6 ≤ p → cs'[p]? = cs[p]?) (hd : ∀ q v, d[q]? = some v → cs'[j * 6 + q]? = some v)
    (hr : OT (fun b => lo ≤ b ∧ b < hi) wr k d) (hlo : N ≤ lo) (hhi : hi ≤ w'.heap.size) (hgN : g < N) (hBN : B ≤ g) :
    Turned2 S w kids (some ⟨g, 0, none⟩) cap (j + 1) B w'.heap.size w' := by
  obtain ⟨css, Si, h1, h2, h3, h4, h5, h6⟩ := h
  have hlt := (List.getElem?_eq_some_iff.1 hk).1
  refine ⟨css.set j d, fun i b => if i = j then lo ≤ b ∧ b < hi else Si i b ∧ b < N, by simp [h1], fun c hc => ?_, own_set6 (cs' := cs') h2 h1 h3 hlt hr.len (fun c hc => ?_), fun i b hib => ?_, fun i i' b h7 h8 => ?_, fun i x c hx hc => ?_⟩
  · rcases List.mem_or_eq_of_mem_set hc with hc | hc
    · exact h2 c hc
    · rw [hc]; exact hr.len
  · obtain rfl := hc.inj hcs
    exact ⟨hb, hl, ho, hd⟩
  · simp only [Value.ownBlock, ne_eq, Option.some.injEq]
    dsimp only at hib
    split at hib
    · refine ⟨by omega, by omega, by omega, by omega⟩
    · obtain ⟨a, b', c, e⟩ := h4 i b hib.1
      simp only [Value.ownBlock, ne_eq, Option.some.injEq] at e
      exact ⟨a, by rw [hu.size]; exact c, by rw [hu.size]; exact c, e⟩
  · dsimp only at h7 h8
    split at h7 <;> split at h8
    · omega
    · have := h8.2; omega
    · have := h7.2; omega
    · exact h5 i i' b h7.1 h8.1
  · by_cases hij : i = j
    · subst hij
      rw [hk] at hx; cases hx
      rw [List.getElem?_set_self (by omega)] at hc; cases hc
      refine ⟨fun _ => ?_, fun h => absurd h (by omega)⟩
      simp only [if_pos]
      exact hr.keep fun b hb => hu.block b (by omega)
    · rw [List.getElem?_set_ne (fun e => hij e.symm)] at hc
      refine ⟨fun hh => ?_, fun hh => (h6 i x c hx hc).2 (by omega)⟩
      simp only [if_neg hij]
      have h9 := (h6 i x c hx hc).1 (by omega)
      have h10 : OT (Si i) w' x c := h9.keep fun b hb => hu.block b (fun e => by
        have := (h4 i b hb).2.2.2
        simp only [Value.ownBlock, ne_eq, Option.some.injEq] at this
        exact this e.symm)
      exact h10.mono fun b hb => ⟨hb, (h4 i b hb).2.1⟩
theorem Turned2.row {S : Nat → Prop} {w wr : World} {t : T} {A : Option Addr} {B B' cap N : Nat} (hl : t.kids.length ≤ 1048576) (h : Turned2 S w t.kids A cap t.kids.length B N wr) (hB : B' ≤ B) (hN : N ≤ wr.heap.size) :
    OT (fun b => B' ≤ b ∧ b < wr.heap.size) wr t (cT t.name t.key t.kind t.num t.text A t.kids.length cap) := by
  obtain ⟨css, Si, h1, h2, h3, h4, h5, h6⟩ := h
  refine OT.of_row (css := css) (Si := Si) ⟨h1, h2, hl, own_weak (Nat.zero_le _) h3, fun g hg => ⟨⟨?_, own_lt h3 g hg⟩, fun i hi => (h4 i g hi).2.2.2 hg⟩, fun i b hb => ⟨by have := (h4 i b hb).1; omega, (h4 i b hb).2.2.1⟩, h5, fun i k c hk hc => (h6 i k c hk hc).1 (List.getElem?_eq_some_iff.1 hk).1⟩
  have := own_base h3 g hg
  omega
set_option maxRecDepth 100000 in
set_option maxHeartbeats 4000000 in
theorem own_clone : ∀ (N : Nat) (t : T) (S : Nat → Prop) (w : World) (c : List Value), t.deep ≤ N → RT S w t c → Calls Try.prog 114 #[.agg c.toArray] w (Ret (OwnPost t w))
  | 0, t, S, w, c, hn, _ => by rw [t.deep_eq] at hn; omega
  | N + 1, t, S, w, c, hn, h => by
    obtain ⟨K, kc, rfl, hrow⟩ := h.row
    have kn := Hd.mk (show deepL t.kids ≤ N by rw [T.deep_eq] at hn; omega)
    have ih := Hd.mk (own_clone N)
    have hlb := hrow.len
    have kr := Hd.mk hrow
    clear hrow h hn
    simp only [cT]
    go_enter Try.func114, Try.ntmps114
    go_wp2_with fail
    have kx := Hd.mk ((Ext.alloc w (.cells #[.string t.name, .string t.key, .int .i64 t.kind, .int .u64 t.num, .string t.text, .slice K t.kids.length kc] 54)).trans (Ext.alloc _ (.cells #[.string ⟨#[]⟩, .string ⟨#[]⟩, .int .i64 0, .int .u64 0, .string ⟨#[]⟩, .slice none 0 0] 54)))
    have kA := Hd.mk ((Blk.new w #[.string t.name, .string t.key, .int .i64 t.kind, .int .u64 t.num, .string t.text, .slice K t.kids.length kc] 54).alloc (.cells #[.string ⟨#[]⟩, .string ⟨#[]⟩, .int .i64 0, .int .u64 0, .string ⟨#[]⟩, .slice none 0 0] 54))
    have kR := Hd.mk (Blk.new2 w (.cells #[.string t.name, .string t.key, .int .i64 t.kind, .int .u64 t.num, .string t.text, .slice K t.kids.length kc] 54) #[.string ⟨#[]⟩, .string ⟨#[]⟩, .int .i64 0, .int .u64 0, .string ⟨#[]⟩, .slice none 0 0] 54)
    have hsz := Hd.mk (show ((w.alloc (.cells #[.string t.name, .string t.key, .int .i64 t.kind, .int .u64 t.num, .string t.text, .slice K t.kids.length kc] 54)).alloc (.cells #[.string ⟨#[]⟩, .string ⟨#[]⟩, .int .i64 0, .int .u64 0, .string ⟨#[]⟩, .slice none 0 0] 54)).heap.size = w.heap.size + 2 by simp)
    generalize (w.alloc _).alloc _ = W at *
    refine Calls.mono (clone_nodes kr.out kx.out) ?_
    rintro e w1 ⟨_, rfl, css, h1, h2, h3, hown, hx1⟩
    obtain ⟨A, cap, rfl, hcap, hnul, hrows⟩ := own_slice hown
    rw [hsz.out] at hrows
    have hT0 := Hd.mk (Turned2.start (N := w1.heap.size) h1 h2 h3 (by rw [hsz.out] at hown; exact hown))
    have kA1 := Hd.mk (kA.out.ext hx1)
    have kR1 := Hd.mk (kR.out.ext hx1)
    have kx1 := Hd.mk (kx.out.trans hx1)
    have hcap := Hd.mk hcap
    have hnul := Hd.mk hnul
    clear h1 h2 h3 hown hx1 hrows
    have gA := kA1.out.cell
    have fA := kA1.out.free
    go_wp2_with fail
    have kA2 := Hd.mk (kA1.out.setCell 5 (.slice A t.kids.length cap))
    have hu := Hd.mk (Upd.setCell w1 ⟨w.heap.size, 5, none⟩ (.slice A t.kids.length cap))
    have kR2 := Hd.mk (hu.out.blk (by simp) kR1.out)
    have hT1 := Hd.mk (Turned2.upd hu.out (by simp) hT0.out)
    have hsz1 := Hd.mk (show w1.heap.size ≤ (w1.setCell ⟨w.heap.size, 5, none⟩ (.slice A t.kids.length cap)).heap.size by simp)
    replace hT1 := Hd.mk (hT1.out.bound hsz1.out)
    have kx2 := Hd.mk (show Ext w _ from Below.trans kx1.out (hu.out.below (Nat.le_refl _)))
    clear gA fA hu kA1 kR1 kx1 hT0 kA kR
    generalize w1.setCell _ _ = W1 at *
    go_loopg [12] (t.kids.length + 1) (fun q i wr => ∃ j : Nat, j ≤ t.kids.length ∧ Hd (q = t.kids.length + 1 - j) ∧ i = .int .i64 j ∧ Hd (Ext w wr) ∧ Hd (Turned2 S w t.kids A cap j (w.heap.size + 2) wr.heap.size wr) ∧
      Hd (Blk wr w.heap.size [.string t.name, .string t.key, .int .i64 t.kind, .int .u64 t.num, .string t.text, .slice A t.kids.length cap] 54) ∧ Hd (Blk wr (w.heap.size + 1) [.string ⟨#[]⟩, .string ⟨#[]⟩, .int .i64 0, .int .u64 0, .string ⟨#[]⟩, .slice none 0 0] 54))
    case atStart => exact ⟨0, by omega, ⟨by omega⟩, rfl, kx2, hT1, kA2, kR2⟩
    case round =>
    obtain ⟨j, hj, hq, rfl, hxr, hT, kA, kR⟩ := hrel
    by_cases hlt : j < t.kids.length
    · have hkj := List.getElem?_eq_getElem hlt
      generalize t.kids[j] = k at hkj
      have hkj := Hd.mk hkj
      obtain ⟨g, cs, d, rfl, hge, hcs, hlen, hd1, hrk⟩ := hT.out.at hkj.out
      obtain ⟨K', kc', rfl, _⟩ := hrk.row
      have hkd := Hd.mk (show k.deep ≤ N by have := deepL_mem hkj.out; have := kn.out; omega)
      have hcs := Hd.mk hcs
      have hlen := Hd.mk hlen
      have hd1' : ∀ (q : Nat) v, (cT k.name k.key k.kind k.num k.text K' k.kids.length kc')[q]? = some v → wr.cell? ⟨g, j * 6 + q, none⟩ = some v := fun q v hv => by rw [hcs.out.cell]; exact hd1 q v hv
      obtain ⟨e0, e1, e2, e3, e4, e5⟩ := six (Ext.refl wr) hd1'
      have hrk := Hd.mk hrk
      have hglt := Hd.mk hcs.out.lt
      clear hd1 hd1'
      go_wp2_with fail
      have hxb := Hd.mk (Ext.alloc wr (.cells #[.string k.name, .string k.key, .int .i64 k.kind, .int .u64 k.num, .string k.text, .slice K' k.kids.length kc'] 54))
      have kB := Hd.mk (Blk.new wr #[.string k.name, .string k.key, .int .i64 k.kind, .int .u64 k.num, .string k.text, .slice K' k.kids.length kc'] 54)
      have kA' := Hd.mk (kA.out.ext hxb.out)
      have kR' := Hd.mk (kR.out.ext hxb.out)
      have hT' := Hd.mk ((hT.out.ext hxb.out).bound hxb.out.size)
      have hcs' := Hd.mk (hcs.out.ext hxb.out)
      have hxr' := Hd.mk (hxr.out.trans hxb.out)
      have hrkV := Hd.mk (hrk.out)
      have hgl2 := Hd.mk (Nat.lt_of_lt_of_le hglt.out hxb.out.size)
      clear e0 e1 e2 e3 e4 e5 hxb kA kR hT hcs
      generalize wr.heap.size = pB at *
      generalize wr.alloc _ = V at *
      refine Flow.wp_region_flow_l (fun qq => match qq with
        | 17 => SP.eq (.pointer (some ⟨w.heap.size, 5, none⟩))
        | 18 => SP.eq (.slice (some ⟨g, 0, none⟩) t.kids.length cap)
        | 19 => SP.eq (.int .i64 (j : Nat))
        | 20 => SP.eq (.agg #[.string k.name, .string k.key, .int .i64 k.kind, .int .u64 k.num, .string k.text, .slice K' k.kids.length kc'])
        | 21 => spO k V.heap.size
        | 22 => SP.eq (.pointer (some ⟨g, j * 6, none⟩))
        | _ => SP.any) 6 (by kernel_rfl) 25 rfl (by kernel_rfl) ?_ ?_
      · skip
        refine ⟨?_, ?_, ?_, ?_, ?_, ?_, trivial⟩
        · intro act W2 hk
          refine Flow.does_intro rfl (fun K hK => ?_)
          have e1 : act.tmps[1]?.getD undef = .pointer (some ⟨w.heap.size, 0, none⟩) := hk.o 1 (by kernel_rfl)
          clear hk
          go_simp
          exact hK _ _ (Ext.refl _) (fun d hd => by cases hd; rfl)
        · intro act W2 hk
          refine Flow.does_intro rfl (fun K hK => ?_)
          have e17 : act.tmps[17]?.getD undef = .pointer (some ⟨w.heap.size, 5, none⟩) := hk.v 17 (by kernel_rfl)
          have g := ((kA'.out).ext ((Ext.drew V).trans hk.ext)).cell
          clear hk
          go_simp
          exact hK _ _ (Ext.refl _) (fun d hd => by cases hd; rfl)
        · intro act W2 hk
          refine Flow.does_intro rfl (fun K hK => ?_)
          have e3 : act.tmps[3]?.getD undef = .int .i64 (j : Nat) := hk.o 3 (by kernel_rfl)
          clear hk
          go_simp
          exact hK _ _ (Ext.refl _) (fun d hd => by cases hd; rfl)
        · intro act W2 hk
          refine Flow.does_intro rfl (fun K hK => ?_)
          have e4 : act.tmps[4]?.getD undef = .pointer (some ⟨pB, 0, none⟩) := hk.o 4 (by kernel_rfl)
          have g := ((kB.out).ext ((Ext.drew V).trans hk.ext)).cell
          clear hk
          go_simp
          exact hK _ _ (Ext.refl _) (fun d hd => by cases hd; rfl)
        · intro act W2 hk
          refine Flow.does_intro rfl (fun K hK => ?_)
          have e20 : act.tmps[20]?.getD undef = .agg #[.string k.name, .string k.key, .int .i64 k.kind, .int .u64 k.num, .string k.text, .slice K' k.kids.length kc'] := hk.v 20 (by kernel_rfl)
          have hx0 := Hd.mk ((Ext.drew V).trans hk.ext)
          have hsz0 := hx0.out.size
          clear hk
          go_simp
          refine Calls.mono (ih.out k S W2 _ hkd.out (hrkV.out.ext (hxr'.out.trans hx0.out))) ?_
          rintro e W3 ⟨_, rfl, c', rfl, hr', hx⟩
          exact hK _ _ hx (fun d hd => by cases hd; exact ⟨c', _, _, rfl, hr', hsz0, Nat.le_refl _⟩)
        · intro act W2 hk
          refine Flow.does_intro rfl (fun K hK => ?_)
          have e18 : act.tmps[18]?.getD undef = .slice (some ⟨g, 0, none⟩) t.kids.length cap := hk.v 18 (by kernel_rfl)
          have e19 : act.tmps[19]?.getD undef = .int .i64 (j : Nat) := hk.v 19 (by kernel_rfl)
          have hlt2 := hlt
          clear hk
          go_simp
          exact hK _ _ (Ext.refl _) (fun d hd => by cases hd; rfl)
      · intro act W2 he
        have hxW2 := Hd.mk ((Ext.drew V).trans he.ext)
        obtain ⟨us, hA, hF⟩ := he.out [17, 18, 19, 20, 21, 22] (by kernel_rfl)
        simp only [Flow.fillL, List.contains_cons, List.contains_nil, Nat.reduceBEq, Bool.or_false, Bool.false_or, Bool.or_true, Bool.true_or, ↓reduceIte, Nat.reduceAdd, Bool.false_eq_true] at hA
        subst hA
        have f21 : (spO k V.heap.size).p (us 21) W2 := hF 21 (by simp)
        have f22 : us 22 = .pointer (some ⟨g, j * 6, none⟩) := hF 22 (by simp)
        clear hF he
        rw [f22]
        clear f22
        obtain ⟨c', lo, hi, ec, hr', hlo, hhi⟩ := (f21 : (spO _ _).p _ _)
        generalize us 17 = u17 at *
        generalize us 18 = u18 at *
        generalize us 19 = u19 at *
        generalize us 20 = u20 at *
        generalize us 21 = u21 at *
        subst ec
        obtain ⟨K2, kc2, _, _, rfl, _⟩ := hr'.row
        have hr' := Hd.mk hr'
        have hcs2 := Hd.mk (hcs'.out.ext hxW2.out)
        have kA2 := Hd.mk (kA'.out.ext hxW2.out)
        have kR2 := Hd.mk (kR'.out.ext hxW2.out)
        have hT2 := Hd.mk (hT'.out.ext hxW2.out)
        have hxr2 := Hd.mk (hxr'.out.trans hxW2.out)
        have hfr := hcs2.out.free
        have hl6 := hlen.out
        obtain ⟨v0, z0⟩ := cell_some hcs2.out (i := j * 6) (by omega)
        obtain ⟨v1, z1⟩ := cell_some hcs2.out (i := j * 6 + 1) (by omega)
        obtain ⟨v2, z2⟩ := cell_some hcs2.out (i := j * 6 + 2) (by omega)
        obtain ⟨v3, z3⟩ := cell_some hcs2.out (i := j * 6 + 3) (by omega)
        obtain ⟨v4, z4⟩ := cell_some hcs2.out (i := j * 6 + 4) (by omega)
        obtain ⟨v5, z5⟩ := cell_some hcs2.out (i := j * 6 + 5) (by omega)
        simp only [cT]
        refine (show wpList _ _ _ (⟨none, .store 54 (.tmp 22) (.tmp 21), _, _, _, none⟩ :: []) _ _ from ?_)
        go_wp2_with fail
        obtain ⟨cs', q1, q2, q3, q4, q5⟩ := set6 hcs2.out (o := j * 6) (by omega) (.string k.name) (.string k.key) (.int .i64 k.kind) (.int .u64 k.num) (.string k.text) (.slice K2 k.kids.length kc2)
        go_roundg (t.kids.length + 1 - (j + 1))
        case measure => have := hq.out; omega
        case rel => exact ⟨j + 1, by omega, ⟨rfl⟩, by go_num, ⟨Below.trans hxr2.out (q2.below (by omega))⟩, ⟨Turned2.step hkj.out hT2.out hcs2.out q2 q1 q3 q4 q5 hr'.out hlo (by rw [q2.size]; exact hhi) hgl2.out (by omega)⟩, ⟨q2.blk (by omega) kA2.out⟩, ⟨q2.blk (by omega) kR2.out⟩⟩
    · have hjl : j = t.kids.length := by omega
      subst hjl
      have gA := kA.out.cell
      have gR := kR.out.cell
      have fR := kR.out.free
      go_wp2_with fail
      have hu := Hd.mk ((((((Upd.setCell wr ⟨w.heap.size + 1, 0, none⟩ (.string t.name)).trans (Upd.setCell _ ⟨w.heap.size + 1, 1, none⟩ (.string t.key))).trans (Upd.setCell _ ⟨w.heap.size + 1, 2, none⟩ (.int .i64 t.kind))).trans (Upd.setCell _ ⟨w.heap.size + 1, 3, none⟩ (.int .u64 t.num))).trans (Upd.setCell _ ⟨w.heap.size + 1, 4, none⟩ (.string t.text))).trans (Upd.setCell _ ⟨w.heap.size + 1, 5, none⟩ (.slice A t.kids.length cap)))
      have hrow := Hd.mk (Turned2.row hlb (hT.out.upd hu.out (show w.heap.size + 1 < w.heap.size + 2 by omega)) (by omega : w.heap.size ≤ w.heap.size + 2) (by rw [hu.out.size]; exact Nat.le_refl _))
      exact ret_box rfl (w.heap.size + 1) _ 54 _ ((((((kR.out.setCell 0 (.string t.name)).setCell 1 (.string t.key)).setCell 2 (.int .i64 t.kind)).setCell 3 (.int .u64 t.num)).setCell 4 (.string t.text)).setCell 5 (.slice A t.kids.length cap)) rfl rfl Try.underlying54 rfl size54
        ⟨_, rfl, _, rfl, hrow.out, Below.trans hxr.out (hu.out.below (Nat.le_succ _))⟩
end Go.Proofs.Ytgkgedjmnbjalaa
set_option linter.unusedSimpArgs false
namespace Go.Proofs.Ytgkgedjmnbjalaa
open Go.RowKit Go.Sort
def insR (x : T) : List T → List T
  | [] => [x]
  | y :: r => if lessT x y = true then y :: insR x r else x :: y :: r
def insSt (x : T) (l : List T) : List T := (insR x l.reverse).reverse
mutual
def sortT : T → T
  | .mk n k d m t l => .mk n k d m t (sortL [] l)
def sortL (acc : List T) : List T → List T
  | [] => acc
  | x :: l => sortL (insSt (sortT x) acc) l
end
theorem sortT_eq (t : T) : sortT t = t.wk (sortL [] t.kids) := by cases t; rw [sortT]; rfl
theorem sortL_cons (acc : List T) (x : T) (l : List T) : sortL acc (x :: l) = sortL (insSt (sortT x) acc) l := by rw [sortL]
theorem sortL_nil (acc : List T) : sortL acc [] = acc := by rw [sortL]
theorem insR_at (x : T) : ∀ (suf r : List T), (∀ e ∈ suf, lessT x e = true) → (∀ y r', r = y :: r' → lessT x y = false) → insR x (suf ++ r) = suf ++ x :: r
  | [], [], _, _ => rfl
  | [], y :: r, _, h => by
    rw [List.nil_append, insR, h y r rfl, if_neg (by simp)]; rfl
  | e :: suf, r, h1, h2 => by
    rw [List.cons_append, insR, if_pos (h1 e (by simp)), insR_at x suf r (fun e he => h1 e (by simp [he])) h2]; rfl
theorem insSt_at {x : T} {l : List T} {p : Nat} (hp : p ≤ l.length) (h1 : ∀ (i : Nat) e, p ≤ i → l[i]? = some e → lessT x e = true) (h2 : ∀ y, 0 < p → l[p - 1]? = some y → lessT x y = false) : insSt x l = l.take p ++ x :: l.drop p := by
  unfold insSt
  have hl : l.reverse = (l.drop p).reverse ++ (l.take p).reverse := by rw [← List.reverse_append, List.take_append_drop]
  rw [hl, insR_at x _ _ (fun e he => ?_) (fun y r' hr => ?_)]
  · simp
  · obtain ⟨i, hi⟩ := List.getElem?_of_mem (List.mem_reverse.1 he)
    rw [List.getElem?_drop] at hi
    exact h1 _ e (by omega) hi
  · have h3 : (l.take p).getLast? = some y := by rw [← List.head?_reverse, hr]; rfl
    rw [List.getLast?_eq_getElem?, List.length_take, List.getElem?_take] at h3
    split at h3
    · rename_i hlt
      refine h2 y (by omega) ?_
      rw [← h3]
      congr 1
      omega
    · cases h3
theorem insSt_len (x : T) (l : List T) : (insSt x l).length = l.length + 1 := by
  have h : ∀ r : List T, (insR x r).length = r.length + 1 := by
    intro r
    induction r with
    | nil => rfl
    | cons y r ih => rw [insR]; split <;> simp [ih]
  unfold insSt
  rw [List.length_reverse, h, List.length_reverse]
theorem insSt_end {x : T} {l : List T} (h : ∀ y ∈ l, lessT y x = true) : insSt x l = l ++ [x] := by
  rw [insSt_at (p := l.length) (Nat.le_refl _) (fun i e hi he => by have := (List.getElem?_eq_some_iff.1 he).1; omega) (fun y hp hy => lessT_asymm (h y (List.mem_of_getElem? hy)))]
  simp
theorem sortL_len : ∀ (l acc : List T), (sortL acc l).length = acc.length + l.length
  | [], acc => by rw [sortL_nil]; rfl
  | x :: l, acc => by rw [sortL_cons, sortL_len l, insSt_len, List.length_cons]; omega
mutual
/-- A tree that is right is sorted. -/
theorem sortT_right : ∀ t : T, rightT t = true → sortT t = t
  | .mk n k d m t l, h => by
    rw [sortT]
    by_cases h0 : d = 0
    · have h1 := (right_box (t := .mk n k d m t l) h0).1 h
      rw [sortL_right l [] h1.2.2.1 h1.2.2.2]
      rfl
    · have h1 : l = [] := right_leaf (x := .mk n k d m t l) h h0
      rw [h1, sortL]
theorem sortL_right : ∀ (l acc : List T), (∀ x ∈ l, rightT x = true) → Srt (acc ++ l) → sortL acc l = acc ++ l
  | [], acc, _, _ => by rw [sortL]; simp
  | x :: l, acc, h1, h2 => by
    have hx := sortT_right x (h1 x (by simp))
    have h3 := (srt_split h2).1
    rw [sortL, hx, insSt_end h3, sortL_right l (acc ++ [x]) (fun y hy => h1 y (by simp [hy])) (by rw [List.append_assoc]; exact h2)]
    simp
end
theorem insSt_sizeL (x : T) (l : List T) : sizeL (insSt x l) = sizeL l + x.size := by
  have h : ∀ r : List T, sizeL (insR x r) = sizeL r + x.size := by
    intro r
    induction r with
    | nil => simp [insR, sizeL]
    | cons y r ih => rw [insR]; split <;> simp [sizeL_cons, ih] <;> omega
  have hr : ∀ r : List T, sizeL r.reverse = sizeL r := by
    intro r
    induction r with
    | nil => rfl
    | cons y r ih => rw [List.reverse_cons, sizeL_append, ih, sizeL_cons, sizeL_cons]; simp [sizeL]; omega
  unfold insSt
  rw [hr, h, hr]
mutual
theorem sortT_size : ∀ t : T, (sortT t).size = t.size
  | .mk n k d m t l => by rw [sortT, T.size, sortL_size l [], T.size]; simp [sizeL]
theorem sortL_size : ∀ (l acc : List T), sizeL (sortL acc l) = sizeL acc + sizeL l
  | [], acc => by rw [sortL]; simp [sizeL]
  | x :: l, acc => by rw [sortL, sortL_size l, insSt_sizeL, sortT_size x, sizeL_cons]; omega
end
end Go.Proofs.Ytgkgedjmnbjalaa
set_option linter.unusedSimpArgs false
namespace Go.Proofs.Ytgkgedjmnbjalaa
open Go.RowKit Go.Sort
def putT : T → List Step → T → T
  | _, [], x => x
  | t, s :: r, x => match kid t.kids s with | none => t | some k => t.wk (repL t.kids s (putT k r x))
theorem setT_put : ∀ (init : List Step) (s : Step) (t p x : T), getT t init = some p → setT t (init ++ [s]) x = putT t init (p.wk (setL p.kids x))
  | [], s, t, p, x, h => by cases h; rfl
  | q :: init, s, t, p, x, h => by
    rw [getT_cons] at h
    cases hk : kid t.kids q with
    | none => rw [hk] at h; cases h
    | some k =>
      rw [hk] at h
      have h' : getT k init = some p := h
      have ih := setT_put init s k p x h'
      obtain ⟨y, l, hl⟩ : ∃ y l, init ++ [s] = y :: l := by cases init <;> exact ⟨_, _, rfl⟩
      rw [List.cons_append, hl]
      rw [hl] at ih
      simp only [setT, putT, hk, ih]
theorem cutT_put : ∀ (init : List Step) (s : Step) (t p : T), getT t init = some p → cutT t (init ++ [s]) = putT t init (p.wk (cutL p.kids s))
  | [], s, t, p, h => by cases h; rfl
  | q :: init, s, t, p, h => by
    rw [getT_cons] at h
    cases hk : kid t.kids q with
    | none => rw [hk] at h; cases h
    | some k =>
      rw [hk] at h
      have h' : getT k init = some p := h
      have ih := cutT_put init s k p h'
      obtain ⟨y, l, hl⟩ : ∃ y l, init ++ [s] = y :: l := by cases init <;> exact ⟨_, _, rfl⟩
      rw [List.cons_append, hl]
      rw [hl] at ih
      simp only [cutT, putT, hk, ih]
def Six (w w' : World) (b o : Nat) (c : List Value) : Prop := ∀ cs, Blk w b cs 54 → ∃ cs', Blk w' b cs' 54 ∧ cs'.length = cs.length ∧ (∀ p, p < o ∨ o + 6 ≤ p → cs'[p]? = cs[p]?) ∧ ∀ (q : Nat) v, c[q]? = some v → cs'[o + q]? = some v
theorem focus : ∀ (way : List Step) (S : Nat → Prop) (w : World) (b0 o0 : Nat) (t u : T) (c : List Value) (b o : Nat), OT S w t c → (∀ x, S x → x < w.heap.size) → ¬ S b0 → (∀ (q : Nat) v, c[q]? = some v → w.cell? ⟨b0, o0 + q, none⟩ = some v) →
    getT t way = some u → Pth w b0 o0 t way b o →
    ∃ Su cu, OT Su w u cu ∧ (∀ x, Su x → S x) ∧ ¬ Su b ∧ (∀ (q : Nat) v, cu[q]? = some v → w.cell? ⟨b, o + q, none⟩ = some v) ∧ ((way = [] ∧ b = b0 ∧ o = o0 ∧ cu = c) ∨ (way ≠ [] ∧ S b ∧ ∃ cs, Blk w b cs 54 ∧ o + 6 ≤ cs.length)) ∧
      ∀ (w' : World) (u' : T) (cu' : List Value) (Su' : Nat → Prop), (∀ x, S x → x ≠ b → ¬ Su x → w'.heap[x]? = w.heap[x]?) → (way ≠ [] → Six w w' b o cu') → OT Su' w' u' cu' → (∀ x, Su' x → Su x ∨ w.heap.size ≤ x) →
        ∃ c', OT (fun x => S x ∨ w.heap.size ≤ x) w' (putT t way u') c' ∧ (way = [] → c' = cu') ∧ (way ≠ [] → c' = c)
  | [], S, w, b0, o0, t, u, c, b, o, ht, hS, hb0, hc, hg, hp => by
    cases hg
    obtain ⟨rfl, rfl⟩ := hp
    exact ⟨S, c, ht, fun x h => h, hb0, hc, .inl ⟨rfl, rfl, rfl, rfl⟩, fun w' u' cu' Su' _ _ h3 h4 => ⟨cu', h3.mono fun x hx => h4 x hx, fun _ => rfl, fun h => absurd rfl h⟩⟩
  | s :: r, S, w, b0, o0, t, u, c, b, o, ht, hS, hb0, hc, hg, hp => by
    obtain ⟨i, k, g, f, n, cc, h1, h2, h3, h4⟩ := hp
    rcases findT_kid t.kids s with ⟨e1, _⟩ | ⟨i', k', e1, e2, e3, e4, _⟩
    · rw [e1] at h1; omega
    obtain rfl : i' = i := by rw [e1] at h1; exact Int.ofNat.inj h1
    rw [h2] at e2
    obtain rfl : k = k' := by cases e2; rfl
    obtain ⟨K, kc, css, Si, rfl, hrow⟩ := ht.row
    have h5 := hc 5 _ rfl
    rw [h3] at h5
    simp only [Option.some.injEq, Value.slice.injEq] at h5
    obtain ⟨rfl, _, _⟩ := h5
    have hlt := (List.getElem?_eq_some_iff.1 h2).1
    obtain ⟨g', cap, sp, hv, _, hbk, hcap, hmx, hsz⟩ := own_form hrow.own (by omega)
    simp only [Value.slice.injEq, Option.some.injEq, Addr.mk.injEq, and_true, true_and] at hv
    obtain ⟨⟨rfl, rfl⟩, rfl⟩ := hv
    have hcl : i' < css.length := by rw [hrow.hl]; exact hlt
    have hci := List.getElem?_eq_getElem hcl
    have hgg := hrow.g g rfl
    have hk6 := hrow.h6 _ (List.getElem_mem hcl)
    have hfl := flatten_len css hrow.h6
    rw [getT_cons, e3] at hg
    have hkc : ∀ (q : Nat) v, (css[i'])[q]? = some v → w.cell? ⟨g, 0 + i' * 6 + q, none⟩ = some v := fun q v hq => by
      have := flatten_get css hrow.h6 i' _ hci q v hq
      rw [hbk.cell, Nat.zero_add, List.getElem?_append_left (List.getElem?_eq_some_iff.1 this).1]
      exact this
    obtain ⟨Su, cu, f1, f2, f3, f4, f5, f6⟩ := focus r (Si i') w g (0 + i' * 6) k u (css[i']) b o (hrow.each i' k _ h2 hci) (fun x hx => hS x (hrow.sub i' x hx)) (hgg.2 i') hkc hg h4
    have hbS : S b ∧ ∃ cs, Blk w b cs 54 ∧ o + 6 ≤ cs.length := by
      rcases f5 with ⟨_, rfl, rfl, _⟩ | ⟨_, h, h'⟩
      · exact ⟨hgg.1, _, hbk, by rw [List.length_append, hfl]; omega⟩
      · exact ⟨hrow.sub i' b h, h'⟩
    refine ⟨Su, cu, f1, fun x hx => hrow.sub i' x (f2 x hx), f3, f4, .inr ⟨by simp, hbS.1, hbS.2⟩, fun w' u' cu' Su' k1 k2 k3 k4 => ?_⟩
    obtain ⟨c', l1, l2, l3⟩ := f6 w' u' cu' Su' (fun x hx => k1 x (hrow.sub i' x hx)) (fun _ => k2 (by simp)) k3 k4
    have hold : ∀ j, j ≠ i' → ∀ x, Si j x → w'.heap[x]? = w.heap[x]? := fun j hj x hx => by
      refine k1 x (hrow.sub j x hx) (fun e => ?_) (fun h => hj (hrow.dis j i' x hx (f2 x h)))
      subst e
      rcases f5 with ⟨_, e, _⟩ | ⟨_, h, _⟩
      · subst e; exact hgg.2 j hx
      · exact hj (hrow.dis j i' x hx h)
    have hown : w'.ownsRow 0 54 6 (.slice (some ⟨g, 0, none⟩) t.kids.length kc) t.kids.length (css.set i' c').flatten := by
      by_cases hr : r = []
      · rcases f5 with ⟨_, rfl, rfl, _⟩ | ⟨h, _⟩
        · rw [l2 hr]
          obtain ⟨cs', m1, m2, m3, m4⟩ := k2 (by simp) _ hbk
          rw [Nat.zero_add] at m3 m4
          exact own_set6 (cs' := cs') hrow.h6 hrow.hl hrow.own hlt k3.len fun cs hcs => by
            obtain rfl := hcs.inj hbk
            exact ⟨m1, m2, m3, m4⟩
        · exact absurd hr h
      · rw [l3 hr, List.set_getElem_self]
        refine own_keep hrow.own fun x hx => ?_
        obtain rfl : g = x := by simpa [Value.ownBlock] using hx
        refine k1 g hgg.1 (fun e => ?_) (fun h => hgg.2 i' (f2 g h))
        subst e
        rcases f5 with ⟨h, _⟩ | ⟨_, h, _⟩
        · exact hr h
        · exact hgg.2 i' h
    have hfin := hrow.set (N := w.heap.size) hS l1 (fun x hx => hx) hown hold
    have hfin2 : OT (fun x => S x ∨ w.heap.size ≤ x) w' (t.wk (t.kids.set i' (putT k r u'))) (cT t.name t.key t.kind t.num t.text (some ⟨g, 0, none⟩) (t.kids.set i' (putT k r u')).length kc) := OT.of_row (t := t.wk (t.kids.set i' (putT k r u'))) hfin
    rw [List.length_set] at hfin2
    refine ⟨cT t.name t.key t.kind t.num t.text (some ⟨g, 0, none⟩) t.kids.length kc, ?_, fun h => absurd h (by simp), fun _ => rfl⟩
    simp only [putT, e3, e4]
    exact hfin2
end Go.Proofs.Ytgkgedjmnbjalaa

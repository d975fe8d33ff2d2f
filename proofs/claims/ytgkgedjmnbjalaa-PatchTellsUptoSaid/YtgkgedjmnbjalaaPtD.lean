/- Texts that the law needs, joined.
   Conditions: none. -/
import Derived.Test.YtgkgedjmnbjalaaPtC
import Derived.Laws.CopyRow
import Derived.Lib.AppendZerosOnto
import Derived.Lib.Overlaps
import Derived.Laws.AppendOwn
import Derived.Laws.Externs
set_option linter.unusedSimpArgs false
namespace Go.Proofs.Ytgkgedjmnbjalaa
open Go.RowKit Go.Sort
def T.wk (t : T) (l : List T) : T := .mk t.name t.key t.kind t.num t.text l
theorem wk_size (t : T) (l : List T) : (t.wk l).size = 1 + sizeL l := by rw [T.size_eq]; rfl
def kid (l : List T) (s : Step) : Option T := l.find? (fun x => decide (stepT x = s))
def repL : List T → Step → T → List T
  | [], _, _ => []
  | y :: l, s, x => if stepT y = s then x :: l else y :: repL l s x
def cutL : List T → Step → List T
  | [], _ => []
  | y :: l, s => if stepT y = s then l else y :: cutL l s
def insL : List T → T → List T
  | [], x => [x]
  | y :: l, x => if lessT y x = true then y :: insL l x else x :: y :: l
def setL (l : List T) (x : T) : List T := if (kid l (stepT x)).isSome = true then repL l (stepT x) x else insL l x
theorem kid_none {l : List T} {s : Step} : kid l s = none ↔ ∀ x ∈ l, stepT x ≠ s := by simp [kid]
theorem kid_some {l : List T} {s : Step} {x : T} (h : kid l s = some x) : ∃ pre suf, l = pre ++ x :: suf ∧ stepT x = s ∧ ∀ p ∈ pre, stepT p ≠ s := by
  obtain ⟨h1, pre, suf, h2, h3⟩ := List.find?_eq_some_iff_append.1 h
  exact ⟨pre, suf, h2, by simpa using h1, fun p hp => by simpa using h3 p hp⟩
theorem kid_pre {s : Step} : ∀ {pre : List T}, (∀ p ∈ pre, stepT p ≠ s) → ∀ l, kid (pre ++ l) s = kid l s
  | [], _, l => rfl
  | p :: pre, h, l => by
    have h1 := h p (by simp)
    have h2 := kid_pre (pre := pre) (fun q hq => h q (by simp [hq])) l
    simp only [kid, List.cons_append, List.find?_cons] at h2 ⊢
    rw [decide_eq_false h1]
    exact h2
theorem rep_pre {s : Step} {x : T} : ∀ {pre : List T}, (∀ p ∈ pre, stepT p ≠ s) → ∀ l, repL (pre ++ l) s x = pre ++ repL l s x
  | [], _, l => rfl
  | p :: pre, h, l => by
    have h1 := h p (by simp)
    have h2 := rep_pre (x := x) (pre := pre) (fun q hq => h q (by simp [hq])) l
    simp only [List.cons_append, repL, if_neg h1, h2]
theorem cut_pre {s : Step} : ∀ {pre : List T}, (∀ p ∈ pre, stepT p ≠ s) → ∀ l, cutL (pre ++ l) s = pre ++ cutL l s
  | [], _, l => rfl
  | p :: pre, h, l => by
    have h1 := h p (by simp)
    have h2 := cut_pre (pre := pre) (fun q hq => h q (by simp [hq])) l
    simp only [List.cons_append, cutL, if_neg h1, h2]
theorem ins_pre {x : T} : ∀ {pre : List T}, (∀ p ∈ pre, lessT p x = true) → ∀ l, insL (pre ++ l) x = pre ++ insL l x
  | [], _, l => rfl
  | p :: pre, h, l => by
    have h1 := h p (by simp)
    have h2 := ins_pre (pre := pre) (fun q hq => h q (by simp [hq])) l
    simp only [List.cons_append, insL, if_pos h1, h2]
theorem kid_at {s : Step} {pre suf : List T} {x : T} (h : ∀ p ∈ pre, stepT p ≠ s) (hx : stepT x = s) : kid (pre ++ x :: suf) s = some x := by
  rw [kid_pre h]; simp [kid, hx]
theorem rep_at {s : Step} {pre suf : List T} {x y : T} (h : ∀ p ∈ pre, stepT p ≠ s) (hx : stepT x = s) : repL (pre ++ x :: suf) s y = pre ++ y :: suf := by
  rw [rep_pre h]; simp [repL, hx]
theorem cut_at {s : Step} {pre suf : List T} {x : T} (h : ∀ p ∈ pre, stepT p ≠ s) (hx : stepT x = s) : cutL (pre ++ x :: suf) s = pre ++ suf := by
  rw [cut_pre h]; simp [cutL, hx]
theorem ins_at {pre suf : List T} {x : T} (h : ∀ p ∈ pre, lessT p x = true) (hx : ∀ z ∈ suf, lessT x z = true) : insL (pre ++ suf) x = pre ++ x :: suf := by
  rw [ins_pre h]
  cases suf with
  | nil => rfl
  | cons z suf => simp [insL, lessT_asymm (hx z (by simp))]
def Srt (l : List T) : Prop := l.Pairwise (fun a b => lessT a b = true)
theorem right_srt : ∀ {l : List T} {p : Option T}, rightL p l = true ↔ (∀ x ∈ l, rightT x = true) ∧ Srt l ∧ ∀ q, p = some q → ∀ x ∈ l, lessT q x = true
  | [], p => by simp [rightL, Srt]
  | x :: l, p => by
    rw [rightL_cons, Bool.and_eq_true, Bool.and_eq_true, right_srt (l := l) (p := some x)]
    constructor
    · rintro ⟨⟨h1, h2⟩, h3, h4, h5⟩
      refine ⟨fun y hy => ?_, List.pairwise_cons.2 ⟨h5 x rfl, h4⟩, fun q hq y hy => ?_⟩
      · rcases List.mem_cons.1 hy with rfl | hy
        · exact h1
        · exact h3 y hy
      · subst hq
        simp only at h2
        rcases List.mem_cons.1 hy with rfl | hy
        · exact h2
        · exact lessT_trans h2 (h5 x rfl y hy)
    · rintro ⟨h1, h2, h3⟩
      have h2' := List.pairwise_cons.1 h2
      refine ⟨⟨h1 x (by simp), ?_⟩, fun y hy => h1 y (by simp [hy]), h2'.2, fun q hq y hy => by cases hq; exact h2'.1 y hy⟩
      cases p with
      | none => rfl
      | some q => exact h3 q rfl x (by simp)
theorem right_box {t : T} (h : t.kind = 0) : rightT t = true ↔ t.num = 0 ∧ t.text = ⟨#[]⟩ ∧ (∀ x ∈ t.kids, rightT x = true) ∧ Srt t.kids := by
  constructor
  · intro hr
    obtain ⟨h1, h2, h3⟩ := right_zero hr h
    obtain ⟨h4, h5, _⟩ := right_srt.1 h3
    exact ⟨h1, h2, h4, h5⟩
  · rintro ⟨h1, h2, h3, h4⟩
    have h5 : rightL none t.kids = true := right_srt.2 ⟨h3, h4, fun q hq => by cases hq⟩
    obtain ⟨n, k, d, m, x, l⟩ := t
    simp only [T.kind, T.num, T.text, T.kids] at h h1 h2 h5
    subst h h1 h2
    simp [rightT, h5]
theorem right_kid' {t x : T} (h : rightT t = true) (hx : x ∈ t.kids) : t.kind = 0 ∧ rightT x = true := by
  by_cases h0 : t.kind = 0
  · exact ⟨h0, ((right_box h0).1 h).2.2.1 x hx⟩
  · rw [right_leaf h h0] at hx; cases hx
theorem srt_split {pre suf : List T} {x : T} (h : Srt (pre ++ x :: suf)) : (∀ p ∈ pre, lessT p x = true) ∧ (∀ z ∈ suf, lessT x z = true) ∧ Srt (pre ++ suf) ∧ ∀ y, stepT y = stepT x → Srt (pre ++ y :: suf) := by
  obtain ⟨h1, h2, h3⟩ := List.pairwise_append.1 h
  obtain ⟨h4, h5⟩ := List.pairwise_cons.1 h2
  have h6 : ∀ p ∈ pre, lessT p x = true := fun p hp => h3 p hp x (by simp)
  refine ⟨h6, h4, List.pairwise_append.2 ⟨h1, h5, fun p hp z hz => h3 p hp z (by simp [hz])⟩, fun y hy => List.pairwise_append.2 ⟨h1, List.pairwise_cons.2 ⟨fun z hz => ?_, h5⟩, fun p hp z hz => ?_⟩⟩
  · rw [(lessT_step (z := z) hy).1]; exact h4 z hz
  · rcases List.mem_cons.1 hz with rfl | hz
    · rw [(lessT_step (z := p) hy).2]; exact h6 p hp
    · exact h3 p hp z (by simp [hz])
theorem srt_ins {x : T} : ∀ {l : List T}, Srt l → (∀ y ∈ l, stepT y ≠ stepT x) → ∃ pre suf, l = pre ++ suf ∧ (∀ p ∈ pre, lessT p x = true) ∧ (∀ z ∈ suf, lessT x z = true) ∧ Srt (pre ++ x :: suf)
  | [], _, _ => ⟨[], [], rfl, by simp, by simp, by simp [Srt]⟩
  | y :: l, h, hn => by
    obtain ⟨h1, h2⟩ := List.pairwise_cons.1 h
    by_cases hy : lessT y x = true
    · obtain ⟨pre, suf, rfl, e2, e3, e4⟩ := srt_ins h2 (fun z hz => hn z (by simp [hz]))
      refine ⟨y :: pre, suf, rfl, fun p hp => ?_, e3, List.pairwise_cons.2 ⟨fun z hz => ?_, e4⟩⟩
      · rcases List.mem_cons.1 hp with rfl | hp
        · exact hy
        · exact e2 p hp
      · rcases List.mem_append.1 hz with hz | hz
        · exact h1 z (by simp [hz])
        · rcases List.mem_cons.1 hz with rfl | hz
          · exact hy
          · exact h1 z (by simp [hz])
    · have hxy : lessT x y = true := by
        cases hc : lessT x y with
        | true => rfl
        | false => exact absurd (step_of_less (by simpa using hy) hc) (hn y (by simp))
      refine ⟨[], y :: l, rfl, by simp, fun z hz => ?_, List.pairwise_cons.2 ⟨fun z hz => ?_, h⟩⟩
      all_goals
        rcases List.mem_cons.1 hz with rfl | hz
        · exact hxy
        · exact lessT_trans hxy (h1 z hz)
theorem setL_new {l : List T} {x : T} (h : Srt l) (hk : kid l (stepT x) = none) : ∃ pre suf, l = pre ++ suf ∧ setL l x = pre ++ x :: suf ∧ (∀ p ∈ pre, lessT p x = true) ∧ (∀ z ∈ suf, lessT x z = true) ∧ Srt (pre ++ x :: suf) := by
  obtain ⟨pre, suf, rfl, h2, h3, h4⟩ := srt_ins h (kid_none.1 hk)
  refine ⟨pre, suf, rfl, ?_, h2, h3, h4⟩
  rw [setL, hk, if_neg (by simp), ins_at h2 h3]
theorem setL_old {l : List T} {x k : T} (hk : kid l (stepT x) = some k) : ∃ pre suf, l = pre ++ k :: suf ∧ setL l x = pre ++ x :: suf ∧ stepT k = stepT x ∧ ∀ p ∈ pre, stepT p ≠ stepT x := by
  obtain ⟨pre, suf, rfl, h2, h3⟩ := kid_some hk
  refine ⟨pre, suf, rfl, ?_, h2, h3⟩
  rw [setL, hk, if_pos (by simp), rep_at h3 h2]
def getT : T → List Step → Option T
  | t, [] => some t
  | t, s :: r => (kid t.kids s).bind fun k => getT k r
theorem getT_cons (t : T) (s : Step) (r : List Step) : getT t (s :: r) = (kid t.kids s).bind fun k => getT k r := rfl
theorem getT_one (t : T) (s : Step) : getT t [s] = kid t.kids s := by rw [getT_cons]; cases kid t.kids s <;> rfl
theorem getT_append : ∀ (l m : List Step) (t : T), getT t (l ++ m) = (getT t l).bind fun u => getT u m
  | [], m, t => rfl
  | s :: l, m, t => by
    rw [List.cons_append, getT_cons, getT_cons]
    cases kid t.kids s with
    | none => rfl
    | some k => exact getT_append l m k
def setT : T → List Step → T → T
  | t, [], _ => t
  | t, [_], x => t.wk (setL t.kids x)
  | t, s :: q :: r, x => match kid t.kids s with | none => t | some k => t.wk (repL t.kids s (setT k (q :: r) x))
def cutT : T → List Step → T
  | t, [] => t
  | t, [s] => t.wk (cutL t.kids s)
  | t, s :: q :: r => match kid t.kids s with | none => t | some k => t.wk (repL t.kids s (cutT k (q :: r)))
def setR (n : T) (way : List Step) (x : T) : T × Int :=
  if way.getLast? = some (stepT x) then
    match getT n way.dropLast with
    | none => (zeroT, 30)
    | some p => if p.kind ≠ 0 then (zeroT, 30) else (setT n way x, 0)
  else (zeroT, 1)
def cutR (n : T) (way : List Step) : T × Int :=
  if way = [] then (zeroT, 30) else match getT n way with | none => (zeroT, 30) | some _ => (cutT n way, 0)
theorem setR_cons (n : T) (s q : Step) (r : List Step) (x : T) : setR n (s :: q :: r) x = if (q :: r).getLast? = some (stepT x) then (match kid n.kids s with | none => (zeroT, 30) | some k => if (setR k (q :: r) x).2 = 0 then (n.wk (repL n.kids s (setR k (q :: r) x).1), 0) else setR k (q :: r) x) else (zeroT, 1) := by
  unfold setR
  rw [List.getLast?_cons_cons, List.dropLast_cons_cons, getT_cons]
  by_cases h : (q :: r).getLast? = some (stepT x)
  · simp only [if_pos h]
    rw [setT]
    cases hk : kid n.kids s with
    | none => rfl
    | some k =>
      simp only [Option.bind_some]
      cases hg : getT k (q :: r).dropLast with
      | none => simp
      | some p =>
        by_cases hp : p.kind ≠ 0
        · simp [hp]
        · simp [hp]
  · simp only [if_neg h]
theorem cutR_cons (n : T) (s q : Step) (r : List Step) : cutR n (s :: q :: r) = match kid n.kids s with | none => (zeroT, 30) | some k => if (cutR k (q :: r)).2 = 0 then (n.wk (repL n.kids s (cutR k (q :: r)).1), 0) else cutR k (q :: r) := by
  unfold cutR
  simp only [reduceCtorEq, ↓reduceIte]
  rw [getT_cons, cutT]
  cases hk : kid n.kids s with
  | none => rfl
  | some k =>
    simp only [Option.bind_some]
    cases hg : getT k (q :: r) with
    | none => simp
    | some p => simp
theorem setR_one (n : T) (s : Step) (x : T) : setR n [s] x = if s = stepT x then (if n.kind ≠ 0 then (zeroT, 30) else (n.wk (setL n.kids x), 0)) else (zeroT, 1) := by
  unfold setR
  by_cases h : s = stepT x
  · simp [h, getT, setT]
  · simp [h]
theorem cutR_one (n : T) (s : Step) : cutR n [s] = match kid n.kids s with | none => (zeroT, 30) | some _ => (n.wk (cutL n.kids s), 0) := by
  unfold cutR
  rw [if_neg (by simp), getT_one]
  rfl
def oneT (n : T) (e : E) : T × Int :=
  if e.way = [] ∨ ¬ (e.kind = 1 ∨ e.kind = 2 ∨ e.kind = 3) ∨ (e.kind ≠ 2 ∧ e.way.getLast? ≠ some (stepT e.node)) ∨ (e.kind ≠ 1 ∧ e.way.getLast? ≠ some (stepT e.old)) then (zeroT, 1)
  else if e.kind = 1 then (if (getT n e.way).isSome = true then (zeroT, 24) else setR n e.way e.node)
  else match getT n e.way with
    | none => (zeroT, 30)
    | some y => if sameT y e.old = false then (zeroT, 23) else if e.kind = 2 then cutR n e.way else if e.node.kind = 0 ∨ e.old.kind = 0 then (zeroT, 23) else setR n e.way e.node
def applyT : T → List E → Nat → T × Int × Nat
  | n, [], _ => (n, 0, 0)
  | n, e :: es, i => if (oneT n e).2 = 0 then applyT (oneT n e).1 es (i + 1) else (zeroT, (oneT n e).2, i)
end Go.Proofs.Ytgkgedjmnbjalaa
set_option linter.unusedSimpArgs false
namespace Go.Proofs.Ytgkgedjmnbjalaa
open Go.RowKit Go.Sort
theorem own_keep {w w' : World} {B : Nat} {e : TypeId} {sz n : Nat} {v : Value} {xs : List Value} (h : w.ownsRow B e sz v n xs) (hk : ∀ g, v.ownBlock = some g → w'.heap[g]? = w.heap[g]?) : w'.ownsRow B e sz v n xs := by
  refine ⟨h.1, ?_⟩
  rcases h.2 with hn | ⟨g, cap, cur, rfl, hb, hgg, rest⟩
  · exact .inl hn
  · exact .inr ⟨g, cap, cur, rfl, hb, by rw [hk g rfl]; exact hgg, rest⟩
theorem own_weak {w : World} {B B' : Nat} {e : TypeId} {sz n : Nat} {v : Value} {xs : List Value} (hB : B' ≤ B) (h : w.ownsRow B e sz v n xs) : w.ownsRow B' e sz v n xs := by
  refine ⟨h.1, ?_⟩
  rcases h.2 with hn | ⟨g, cap, cur, rfl, hb, hgg, rest⟩
  · exact .inl hn
  · exact .inr ⟨g, cap, cur, rfl, by omega, hgg, rest⟩
theorem own_cap {w : World} {B : Nat} {e : TypeId} {sz n m c : Nat} {K : Option Addr} {xs : List Value} (h : w.ownsRow B e sz (.slice K m c) n xs) : n ≤ c ∧ c ≤ maxLen ∧ (K = none → c = 0) ∧ ∀ a, K = some a → ∃ g, a = ⟨g, 0, none⟩ ∧ B ≤ g ∧ g < w.heap.size := by
  rcases h.2 with ⟨hv, h0⟩ | ⟨g, cap, cur, hv, hb, hg, hc, hm, hs, ht⟩
  · simp only [Value.slice.injEq] at hv
    obtain ⟨rfl, rfl, rfl⟩ := hv
    subst h0
    exact ⟨Nat.le_refl _, Nat.zero_le _, fun _ => rfl, fun a ha => by cases ha⟩
  · simp only [Value.slice.injEq] at hv
    obtain ⟨rfl, rfl, rfl⟩ := hv
    exact ⟨hc, hm, fun h => (by cases h), fun a ha => (by cases ha; exact ⟨g, rfl, hb, heap_lt hg⟩)⟩
inductive OT : (Nat → Prop) → World → T → List Value → Prop where
  | mk (S : Nat → Prop) (w : World) (name key : ByteArray) (kind num : Int) (text : ByteArray) (kids : List T) (K : Option Addr) (kc : Nat) (css : List (List Value)) (Si : Nat → Nat → Prop)
    (hl : css.length = kids.length) (h6 : ∀ c ∈ css, c.length = 6) (hb : kids.length ≤ 1048576)
    (hown : w.ownsRow 0 54 6 (.slice K kids.length kc) kids.length css.flatten)
    (hg : ∀ g, (Value.slice K kids.length kc).ownBlock = some g → S g ∧ ∀ i, ¬ Si i g)
    (hS : ∀ i b, Si i b → S b)
    (hd : ∀ i j b, Si i b → Si j b → i = j)
    (hr : ∀ (i : Nat) k c, kids[i]? = some k → css[i]? = some c → OT (Si i) w k c) :
    OT S w (.mk name key kind num text kids) (cT name key kind num text K kids.length kc)
structure ORow (S : Nat → Prop) (w : World) (K : Option Addr) (kids : List T) (kc : Nat) (css : List (List Value)) (Si : Nat → Nat → Prop) : Prop where
  hl : css.length = kids.length
  h6 : ∀ c ∈ css, c.length = 6
  hb : kids.length ≤ 1048576
  own : w.ownsRow 0 54 6 (.slice K kids.length kc) kids.length css.flatten
  g : ∀ g, (Value.slice K kids.length kc).ownBlock = some g → S g ∧ ∀ i, ¬ Si i g
  sub : ∀ i b, Si i b → S b
  dis : ∀ i j b, Si i b → Si j b → i = j
  each : ∀ (i : Nat) k c, kids[i]? = some k → css[i]? = some c → OT (Si i) w k c
theorem OT.row {S : Nat → Prop} {w : World} {t : T} {c : List Value} (h : OT S w t c) : ∃ K kc css Si, c = cT t.name t.key t.kind t.num t.text K t.kids.length kc ∧ ORow S w K t.kids kc css Si := by
  cases h with
  | mk S w name key kind num text kids K kc css Si hl h6 hb hown hg hS hd hr => exact ⟨K, kc, css, Si, rfl, ⟨hl, h6, hb, hown, hg, hS, hd, hr⟩⟩
theorem OT.of_row {S : Nat → Prop} {w : World} {t : T} {K : Option Addr} {kc : Nat} {css : List (List Value)} {Si : Nat → Nat → Prop} (h : ORow S w K t.kids kc css Si) : OT S w t (cT t.name t.key t.kind t.num t.text K t.kids.length kc) := by
  obtain ⟨name, key, kind, num, text, kids⟩ := t
  exact .mk S w name key kind num text kids K kc css Si h.hl h.h6 h.hb h.own h.g h.sub h.dis h.each
theorem OT.len {S : Nat → Prop} {w : World} {t : T} {c : List Value} (h : OT S w t c) : c.length = 6 := by cases h; rfl
theorem OT.mono {S S' : Nat → Prop} {w : World} {t : T} {c : List Value} (hs : ∀ b, S b → S' b) (h : OT S w t c) : OT S' w t c := by
  cases h with
  | mk S w name key kind num text kids K kc css Si hl h6 hb hown hg hS hd hr =>
    exact .mk S' w name key kind num text kids K kc css Si hl h6 hb hown (fun g h => ⟨hs g (hg g h).1, (hg g h).2⟩) (fun i b h => hs b (hS i b h)) hd hr
theorem OT.keep {S : Nat → Prop} {w w' : World} {t : T} {c : List Value} (h : OT S w t c) (hk : ∀ b, S b → w'.heap[b]? = w.heap[b]?) : OT S w' t c := by
  induction h with
  | mk S w name key kind num text kids K kc css Si hl h6 hb hown hg hS hd hr ih =>
    exact .mk S w' name key kind num text kids K kc css Si hl h6 hb (own_keep hown fun g h => hk g (hg g h).1) hg hS hd (fun i k c hi hc => ih i k c hi hc fun b hb => hk b (hS i b hb))
theorem OT.ext {S : Nat → Prop} {w w' : World} {t : T} {c : List Value} (hS : ∀ b, S b → b < w.heap.size) (hx : Ext w w') (h : OT S w t c) : OT S w' t c := h.keep fun b hb => hx.block b (hS b hb)
theorem OT.rt {S : Nat → Prop} {w : World} {t : T} {c : List Value} (h : OT S w t c) : RT S w t c := by
  induction h with
  | mk S w name key kind num text kids K kc css Si hl h6 hb hown hg hS hd hr ih =>
    obtain ⟨h1, _, h3, _⟩ := own_cap hown
    refine .mk name key kind num text kids K kc css hl h6 (fun hn => ?_) (fun i k c hi hc => (ih i k c hi hc).mono fun b _ hb => hS i b hb) ⟨h1, hb, h3⟩
    obtain ⟨g, cap, sp, hv, _, hbk, _⟩ := own_form hown (by cases kids with | nil => exact absurd rfl hn | cons x l => simp)
    simp only [Value.slice.injEq] at hv
    obtain ⟨rfl, _, _⟩ := hv
    refine ⟨g, 0, rfl, (hg g rfl).1, fun j v hj => ?_⟩
    rw [Nat.zero_add, hbk.cell, List.getElem?_append_left (List.getElem?_eq_some_iff.1 hj).1]
    exact hj
theorem ORow.rrow {S : Nat → Prop} {w : World} {K : Option Addr} {kids : List T} {kc : Nat} {css : List (List Value)} {Si : Nat → Nat → Prop} (h : ORow S w K kids kc css Si) : RRow S w K kids kc := by
  have h1 := (OT.of_row (t := .mk ⟨#[]⟩ ⟨#[]⟩ 0 0 ⟨#[]⟩ kids) (K := K) (kc := kc) h).rt
  obtain ⟨K', kc', h2, h3⟩ := h1.row
  simp only [cT, T.name, T.key, T.kind, T.num, T.text, T.kids, List.cons.injEq, Value.slice.injEq, true_and, and_true] at h2
  obtain ⟨rfl, rfl⟩ := h2
  exact h3
theorem own_set6 {w w' : World} {B n kc g i : Nat} {css : List (List Value)} {cs' c' : List Value} (h6 : ∀ c ∈ css, c.length = 6) (hl : css.length = n) (hown : w.ownsRow B 54 6 (.slice (some ⟨g, 0, none⟩) n kc) n css.flatten) (hi : i < n) (hc' : c'.length = 6)
    (hb : ∀ cs, Blk w g cs 54 → Blk w' g cs' 54 ∧ cs'.length = cs.length ∧ (∀ p, p < i * 6 ∨ i * 6 + 6 ≤ p → cs'[p]? = cs[p]?) ∧ ∀ q v, c'[q]? = some v → cs'[i * 6 + q]? = some v) :
    w'.ownsRow B 54 6 (.slice (some ⟨g, 0, none⟩) n kc) n (css.set i c').flatten := by
  obtain ⟨g', cap, sp, hv, hB, hbk, hn, hm, hs⟩ := own_form hown (by omega)
  simp only [Value.slice.injEq, Option.some.injEq, Addr.mk.injEq, and_true, true_and] at hv
  obtain ⟨rfl, rfl⟩ := hv
  obtain ⟨b1, b2, b3, b4⟩ := hb _ hbk
  have h6' : ∀ c ∈ css.set i c', c.length = 6 := fun c hc => by
    rcases List.mem_or_eq_of_mem_set hc with hc | hc
    · exact h6 c hc
    · rw [hc]; exact hc'
  have hf : css.flatten.length = n * 6 := by rw [flatten_len css h6, hl]
  have hf' : (css.set i c').flatten.length = n * 6 := by rw [flatten_len _ h6', List.length_set, hl]
  have e : cs' = (css.set i c').flatten ++ sp := by
    apply List.ext_getElem?
    intro p
    by_cases hp : p < n * 6
    · rw [List.getElem?_append_left (by omega)]
      have hq : p / 6 < n := Nat.div_lt_of_lt_mul (by omega)
      have hpq : p = p / 6 * 6 + p % 6 := by omega
      by_cases he : p / 6 = i
      · have hlt : p % 6 < c'.length := by rw [hc']; omega
        have h1 := b4 (p % 6) _ (List.getElem?_eq_getElem hlt)
        have h2 := flatten_get (css.set i c') h6' i c' (List.getElem?_set_self (by omega)) (p % 6) _ (List.getElem?_eq_getElem hlt)
        rw [← he] at h1 h2
        rw [← hpq] at h1 h2
        rw [he] at h2
        rw [h1, h2]
      · have hci : (css[p / 6]'(by omega)).length = 6 := h6 _ (List.getElem_mem _)
        have hlt : p % 6 < (css[p / 6]'(by omega)).length := by omega
        have h1 := flatten_get css h6 (p / 6) _ (List.getElem?_eq_getElem (by omega)) (p % 6) _ (List.getElem?_eq_getElem hlt)
        have h2 := flatten_get (css.set i c') h6' (p / 6) _ (by rw [List.getElem?_set_ne (fun h => he h.symm)]; exact List.getElem?_eq_getElem (by omega)) (p % 6) _ (List.getElem?_eq_getElem hlt)
        rw [← hpq] at h1 h2
        rw [h2, b3 p (by omega), List.getElem?_append_left (by omega), h1]
    · rw [List.getElem?_append_right (by omega), b3 p (by omega), List.getElem?_append_right (by omega), hf, hf']
  subst e
  exact own_intro hB b1 hn hm (by rw [b2]; exact hs) hf'
theorem ORow.set {S Sx : Nat → Prop} {w w' : World} {K : Option Addr} {kids : List T} {kc i N : Nat} {css : List (List Value)} {Si : Nat → Nat → Prop} {x : T} {cx : List Value} (h : ORow S w K kids kc css Si) (hN : ∀ b, S b → b < N)
    (hx : OT Sx w' x cx) (hsx : ∀ b, Sx b → Si i b ∨ N ≤ b) (hown : w'.ownsRow 0 54 6 (.slice K kids.length kc) kids.length (css.set i cx).flatten) (hk : ∀ j, j ≠ i → ∀ b, Si j b → w'.heap[b]? = w.heap[b]?) :
    ORow (fun b => S b ∨ N ≤ b) w' K (kids.set i x) kc (css.set i cx) (fun j b => if j = i then Sx b else Si j b) := by
  refine ⟨by simp [h.hl], fun c hc => ?_, by simp [h.hb], by simpa using hown, fun g hg => ?_, fun j b hb => ?_, fun j j' b h1 h2 => ?_, fun j k c hj hc => ?_⟩
  · rcases List.mem_or_eq_of_mem_set hc with hc | hc
    · exact h.h6 c hc
    · rw [hc]; exact hx.len
  · rw [List.length_set] at hg
    obtain ⟨g1, g2⟩ := h.g g hg
    refine ⟨.inl g1, fun j => ?_⟩
    split
    · intro hs
      rcases hsx g hs with h3 | h3
      · exact g2 i h3
      · have := hN g g1; omega
    · exact g2 j
  · split at hb
    · rcases hsx b hb with h3 | h3
      · exact .inl (h.sub i b h3)
      · exact .inr h3
    · exact .inl (h.sub j b hb)
  · split at h1 <;> split at h2
    · omega
    · rename_i e1 e2
      rcases hsx b h1 with h3 | h3
      · have := h.dis i j' b h3 h2; omega
      · have := hN b (h.sub j' b h2); omega
    · rename_i e1 e2
      rcases hsx b h2 with h3 | h3
      · have := h.dis i j b h3 h1; omega
      · have := hN b (h.sub j b h1); omega
    · exact h.dis j j' b h1 h2
  · by_cases hji : j = i
    · subst hji
      have hlt : j < kids.length := by have := (List.getElem?_eq_some_iff.1 hj).1; simpa using this
      rw [List.getElem?_set_self hlt] at hj
      rw [List.getElem?_set_self (by rw [h.hl]; exact hlt)] at hc
      cases hj; cases hc
      simpa using hx
    · rw [List.getElem?_set_ne (fun e => hji e.symm)] at hj hc
      simp only [if_neg hji]
      exact (h.each j k c hj hc).keep fun b hb => hk j hji b hb
theorem ORow.perm {S Sx : Nat → Prop} {w w' : World} {K K' : Option Addr} {kids kids' : List T} {kc kc' N : Nat} {css css' : List (List Value)} {Si : Nat → Nat → Prop} {x : T} {cx : List Value} (h : ORow S w K kids kc css Si) (hN : ∀ b, S b → b < N) (f : Nat → Option Nat)
    (hx : (∃ j, f j = none) → OT Sx w' x cx) (hsx : ∀ b, Sx b → N ≤ b) (hl' : css'.length = kids'.length) (hb' : kids'.length ≤ 1048576)
    (hf : ∀ (j : Nat) k c, kids'[j]? = some k → css'[j]? = some c → (∃ i, f j = some i ∧ kids[i]? = some k ∧ css[i]? = some c) ∨ (f j = none ∧ k = x ∧ c = cx))
    (hinj : ∀ j j', f j = f j' → j = j') (hown : w'.ownsRow 0 54 6 (.slice K' kids'.length kc') kids'.length css'.flatten) (hk : ∀ i b, Si i b → w'.heap[b]? = w.heap[b]?)
    (hg' : ∀ g, (Value.slice K' kids'.length kc').ownBlock = some g → (Value.slice K kids.length kc).ownBlock = some g ∨ (N ≤ g ∧ ¬ Sx g)) :
    ORow (fun b => S b ∨ N ≤ b) w' K' kids' kc' css' (fun j b => match f j with | some i => Si i b | none => Sx b) := by
  have hlen : ∀ j, j < css'.length → ∃ k c, kids'[j]? = some k ∧ css'[j]? = some c := fun j hj => ⟨_, _, List.getElem?_eq_getElem (by omega), List.getElem?_eq_getElem hj⟩
  refine ⟨hl', fun c hc => ?_, hb', hown, fun g hg => ?_, fun j b hb => ?_, fun j j' b h1 h2 => ?_, fun j k c hj hc => ?_⟩
  · obtain ⟨j, hj⟩ := List.getElem?_of_mem hc
    obtain ⟨k, c2, e1, e2⟩ := hlen j (List.getElem?_eq_some_iff.1 hj).1
    rw [hj] at e2; cases e2
    rcases hf j k c e1 hj with ⟨i, _, _, h2⟩ | ⟨h1, _, h2⟩
    · exact h.h6 c (List.mem_of_getElem? h2)
    · rw [h2]; exact (hx ⟨j, h1⟩).len
  · rcases hg' g hg with h1 | ⟨h1, h2⟩
    · obtain ⟨g1, g2⟩ := h.g g h1
      refine ⟨.inl g1, fun j => ?_⟩
      split
      · exact g2 _
      · intro hs; have := hN g g1; have := hsx g hs; omega
    · refine ⟨.inr h1, fun j => ?_⟩
      split
      · intro hs; have := hN g (h.sub _ g hs); omega
      · exact h2
  · split at hb
    · exact .inl (h.sub _ b hb)
    · exact .inr (hsx b hb)
  · split at h1 <;> split at h2
    · rename_i _ i e1 _ i' e2
      have := h.dis i i' b h1 h2
      exact hinj j j' (by rw [e1, e2, this])
    · have := hN b (h.sub _ b h1); have := hsx b h2; omega
    · have := hN b (h.sub _ b h2); have := hsx b h1; omega
    · rename_i e1 _ e2
      exact hinj j j' (by rw [e1, e2])
  · rcases hf j k c hj hc with ⟨i, e1, e2, e3⟩ | ⟨e1, rfl, rfl⟩
    · simp only [e1]
      exact (h.each i k c e2 e3).keep fun b hb => hk i b hb
    · simp only [e1]
      exact hx ⟨j, e1⟩
end Go.Proofs.Ytgkgedjmnbjalaa
set_option linter.unusedSimpArgs false
namespace Go.Proofs.Ytgkgedjmnbjalaa
open Go.RowKit Go.Sort
section
variable {P : Program} {w : World} {T E : TypeId} {sz by_ : Nat}
theorem run_copy_sz (hT : SlT P T E sz by_) (T' ty : TypeId) (g o dLen dCap : Nat) (a : Addr) (sLen sCap : Nat) (cur : List Value) (t : TypeId) (cs : List Value) (hg : Blk w g cur t)
    (hn : cs.length = Nat.min sLen dLen * sz) (hsrc : ∀ j v, cs[j]? = some v → w.cell? (a.add j) = some v) (hfit : o + cs.length ≤ cur.length) (h1 : cs.all (·.oneCell') = true) :
    (Builtin.copy_ #[T, T'] ty #[.slice (some ⟨g, o, none⟩) dLen dCap, .slice (some a) sLen sCap]).run P w = .ok (goInt (Nat.min sLen dLen)) (w.setRow g (cur.take o ++ cs ++ cur.drop (o + cs.length)).toArray) := by
  obtain ⟨ht, i, z, hi, hz, hz1, hz2, hz3⟩ := hT
  have hl := run_loadCells_list (P := P) w a cs hsrc
  rw [hn] at hl
  have hst := run_storeCells_at P g o t cs 0 cur.toArray w hg (by simpa using hfit) (by rw [List.all_eq_true] at h1; exact h1)
  subst hz1
  simp [Builtin.copy_, run_underlying ht, Builtin.lenOf, Builtin.firstCells, sizeOf, typeInfo, hi, hl, hst]
theorem wpl_copy {ops : Array Oper} {rest : List Oper} {a : Act} {Q : Exit → Act → World → Prop} (hT : SlT P T E sz by_) (x y : Operand) (d : Option Tmp) (T' p1 : TypeId) (p2 : String) (p3 : Array Edge)
    (g o dLen dCap : Nat) (hx : a.eval x = .slice (some ⟨g, o, none⟩) dLen dCap) (ad : Addr) (sLen sCap : Nat) (hy : a.eval y = .slice (some ad) sLen sCap) (cur : List Value) (t : TypeId) (cs : List Value) (hg : Blk w g cur t)
    (hn : cs.length = Nat.min sLen dLen * sz) (hsrc : ∀ j v, cs[j]? = some v → w.cell? (ad.add j) = some v) (hfit : o + cs.length ≤ cur.length) (h1 : cs.all (·.oneCell') = true)
    (h : ∀ w', Upd w w' g → Blk w' g (cur.take o ++ cs ++ cur.drop (o + cs.length)) t → wpList P ops Q rest (a.put d (goInt (Nat.min sLen dLen))) w') :
    wpList P ops Q (⟨d, .call { callee := .builtin .copy, args := #[x, y], argTypes := #[T, T'] }, p1, p2, p3, none⟩ :: rest) a w := by
  refine wpList_plain rfl fun K hK => ?_
  have hrun := run_copy_sz (P := P) hT T' p1 g o dLen dCap ad sLen sCap cur t cs hg hn hsrc hfit h1
  unfold Oper.wp execOp
  simp only [resolve, invoke, builtin, Sem.run_bind, Sem.run_pure, Result.andThen_ok, List.map_toArray, List.map_cons, List.map_nil, hx, hy, hrun]
  exact hK _ _ (h _ (Upd.setRow w g _) (by have := hg.setRow (cur.take o ++ cs ++ cur.drop (o + cs.length)).toArray; simpa using this))
theorem wpl_append_room {ops : Array Oper} {rest : List Oper} {a : Act} {Q : Exit → Act → World → Prop} (hT : SlT P T E sz by_) (x y : Operand) (d : Tmp) (p1 : TypeId) (p2 : String) (p3 : Array Edge)
    (g sLen sCap : Nat) (hx : a.eval x = .slice (some ⟨g, 0, none⟩) sLen sCap) (ad : Addr) (m c : Nat) (hy : a.eval y = .slice (some ad) m c) (cur : List Value) (news : List Value) (hg : Blk w g cur E)
    (hl : news.length = m * sz) (hsrc : ∀ j v, news[j]? = some v → w.cell? (ad.add j) = some v) (hroom : sLen + m ≤ sCap) (hfit : sLen * sz + news.length ≤ cur.length) (h1 : news.all (·.oneCell') = true)
    (h : ∀ w', Upd w w' g → Blk w' g (cur.take (sLen * sz) ++ news ++ cur.drop (sLen * sz + news.length)) E → wpList P ops Q rest (a.put (some d) (.slice (some ⟨g, 0, none⟩) (sLen + m) sCap)) w') :
    wpList P ops Q (⟨some d, .call { callee := .builtin .append, args := #[x, y], argTypes := #[T, T] }, p1, p2, p3, none⟩ :: rest) a w := by
  obtain ⟨ht, i, z, hi, hz, hz1, hz2, hz3⟩ := hT
  subst hz1
  refine wpList_plain rfl fun K hK => ?_
  have hrun := run_append_room (P := P) w T p1 E i ht hi g sLen sCap cur.toArray hg ad m c news hl hsrc (by rw [List.all_eq_true] at h1; exact h1) hroom (by simpa using hfit)
  unfold Oper.wp execOp
  simp only [resolve, invoke, builtin, Sem.run_bind, Sem.run_pure, Result.andThen_ok, List.map_toArray, List.map_cons, List.map_nil, hx, hy, hrun]
  exact hK _ _ (h _ (Upd.setRow w g _) (by have := hg.setRow (cur.take (sLen * i.size) ++ news ++ cur.drop (sLen * i.size + news.length)).toArray; simpa using this))
theorem wpl_append_zeros {ops : Array Oper} {rest : List Oper} {a : Act} {Q : Exit → Act → World → Prop} (hT : SlT P T E sz by_) (hsz : 0 < sz) (hby : 0 < by_) {tn : TypeId} {kn : IntKind} (htn : P.underlying tn = some (.int kn)) (x y : Operand) (d : Tmp) (p1 : TypeId) (p2 : String) (p3 : Array Edge)
    (ad : Addr) (sLen sCap : Nat) (hx : a.eval x = .slice (some ad) sLen sCap) (kq : IntKind) (k : Nat) (hy : a.eval y = .int kq k) (olds : List Value) (hl : olds.length = sLen * sz) (hold : ∀ j v, olds[j]? = some v → w.cell? (ad.add j) = some v)
    (h0 : 0 < k) (hg : sCap < sLen + k) (hbytes : (sLen + k) * by_ ≤ 140737488355328)
    (h : ∀ cap sp w', Ext w w' → w.heap.size < w'.heap.size → Blk w' w.heap.size (olds ++ sp) E → (olds ++ sp).length = cap * sz → sLen + k ≤ cap → cap ≤ maxLen → wpList P ops Q rest (a.put (some d) (.slice (some ⟨w.heap.size, 0, none⟩) (sLen + k) cap)) w') :
    wpList P ops Q (⟨some d, .call { callee := .builtin .append, args := #[x, y], argTypes := #[T, tn] }, p1, p2, p3, none⟩ :: rest) a w := by
  obtain ⟨ht, i, z, hi, hz, hz1, hz2, hz3⟩ := hT
  subst hz1 hz2
  have hle : sLen + k ≤ 140737488355328 := Nat.le_trans (Nat.le_mul_of_pos_right _ hby) hbytes
  have hkb : k * i.bytes ≤ 281474976710656 := by
    have h1 : k * i.bytes ≤ (sLen + k) * i.bytes := Nat.mul_le_mul_right _ (by omega)
    omega
  refine wpList_plain rfl fun K hK => ?_
  have hld : (Builtin.firstCells i.size sLen (.slice (some ad) sLen sCap)).run P w.drew = .ok olds.toArray w.drew := by
    have := run_loadCells_list (P := P) w.drew ad olds hold
    rw [hl] at this
    simpa [Builtin.firstCells] using this
  have hrun := Lib.run_append_grow_zeros (P := P) w T tn p1 E i z kq kn ht htn hi hz (some ad) sLen sCap olds hld k h0 hsz hg (by omega) hkb (growslice_fits hg hbytes)
  unfold Oper.wp execOp
  simp only [resolve, invoke, builtin, Sem.run_bind, Sem.run_pure, Result.andThen_ok, List.map_toArray, List.map_cons, List.map_nil, hx, hy, hrun]
  refine hK _ _ (h _ ((Builtin.zeroCells z.cells k).toList ++ (Builtin.zeroCells z.cells (grownCap w (sLen + k) sCap E - (sLen + k))).toList) _ ((Ext.drew w).trans (Ext.alloc _ _)) (by simp) ?_ ?_ (grownCap_ge _ _ _ _) (grownCap_le_maxLen _ _ _ _ (by simp only [maxLen]; omega)))
  · have := Blk.new w.drew (olds.toArray ++ Builtin.zeroCells z.cells k ++ Builtin.zeroCells z.cells (grownCap w (sLen + k) sCap E - (sLen + k))) E
    simpa using this
  · have hge := grownCap_ge w (sLen + k) sCap E
    simp only [List.length_append, Array.length_toList, size_zeroCells, hl, hz3, ← Nat.add_mul]
    congr 1
    omega
theorem wpl_clear {ops : Array Oper} {rest : List Oper} {a : Act} {Q : Exit → Act → World → Prop} (hT : SlT P T E sz by_) (x : Operand) (d : Option Tmp) (p1 : TypeId) (p2 : String) (p3 : Array Edge)
    (g o n c : Nat) (hx : a.eval x = .slice (some ⟨g, o, none⟩) n c) (hn : 0 < n) (cur : List Value) (t : TypeId) (hg : Blk w g cur t) (hfit : o + n * sz ≤ cur.length) (h1 : ∀ z i, P.info? E = some i → i.zero = some z → (Builtin.zeroCells z.cells n).toList.all (·.oneCell') = true)
    (h : ∀ w' zs, zs.length = n * sz → Upd w w' g → Blk w' g (cur.take o ++ zs ++ cur.drop (o + n * sz)) t → wpList P ops Q rest (a.put d (.tuple #[])) w') :
    wpList P ops Q (⟨d, .call { callee := .builtin .clear, args := #[x], argTypes := #[T] }, p1, p2, p3, none⟩ :: rest) a w := by
  obtain ⟨ht, i, z, hi, hz, hz1, hz2, hz3⟩ := hT
  subst hz1
  have h1' := h1 z i hi hz
  have hzl : (Builtin.zeroCells z.cells n).toList.length = n * i.size := by rw [Array.length_toList, size_zeroCells, hz3]
  obtain ⟨n, rfl⟩ : ∃ n', n = n' + 1 := ⟨n - 1, by omega⟩
  refine wpList_plain rfl fun K hK => ?_
  have hst := run_storeCells_at P g o t (Builtin.zeroCells z.cells (n + 1)).toList 0 cur.toArray w hg (by rw [hzl]; simpa using hfit) (by rw [List.all_eq_true] at h1'; exact h1')
  have hrun : (Builtin.clear_ #[T] p1 #[.slice (some ⟨g, o, none⟩) (n + 1) c]).run P w = .ok (.tuple #[]) (w.setRow g (cur.take o ++ (Builtin.zeroCells z.cells (n + 1)).toList ++ cur.drop (o + (n + 1) * i.size)).toArray) := by
    simp only [Nat.add_zero, hzl] at hst
    simp [Builtin.clear_, run_underlying ht, zeroValue, typeInfo, hi, hz, hst]
  unfold Oper.wp execOp
  simp only [resolve, invoke, builtin, Sem.run_bind, Sem.run_pure, Result.andThen_ok, List.map_toArray, List.map_cons, List.map_nil, hx, hrun]
  exact hK _ _ (h _ _ hzl (Upd.setRow w g _) (by have := hg.setRow (cur.take o ++ (Builtin.zeroCells z.cells (n + 1)).toList ++ cur.drop (o + (n + 1) * i.size)).toArray; simpa using this))
end
theorem zero54 : ∀ z i, Try.prog.info? 54 = some i → i.zero = some z → (Builtin.zeroCells z.cells 1).toList.all (·.oneCell') = true := by
  have h : (Try.prog.info? 54).map (fun i => i.zero.map fun z => (Builtin.zeroCells z.cells 1).toList.all (·.oneCell')) = some (some true) := by kernel_rfl
  intro z i hi hz
  simpa [hi, hz] using h
end Go.Proofs.Ytgkgedjmnbjalaa
set_option linter.unusedSimpArgs false
namespace Go.Proofs.Ytgkgedjmnbjalaa
open Go.RowKit Go.Sort
def InsPost (w : World) (K : Option Addr) (n kc : Nat) (xs : List Value) (e : Ending) (w' : World) : Prop :=
  ∃ K' kc', e = .returned (.slice K' n kc') ∧ w'.ownsRow 0 54 6 (.slice K' n kc') n xs ∧ w.grownBy w' (Value.slice K n kc).ownBlock ∧ ((Value.slice K' n kc').ownBlock = (Value.slice K n kc).ownBlock ∨ (Value.slice K' n kc').ownBlock = some w.heap.size ∨ ∃ g, (Value.slice K' n kc').ownBlock = some g ∧ w.heap.size ≤ g)
theorem grown_ext {w w' : World} {row : Option Nat} (h : Ext w w') : w.grownBy w' row := ⟨h.os, h.tape, h.output, h.size, fun k hk _ => h.block k hk⟩
theorem grown_upd {w w' : World} {g : Nat} (h : Upd w w' g) : w.grownBy w' (some g) := ⟨h.os, h.tape, h.output, Nat.le_of_eq h.size.symm, fun k _ hk => h.block k (fun e => hk (by rw [e]))⟩
theorem own_any_n {K : Option Addr} {n n' c c' : Nat} : (Value.slice K n c).ownBlock = (Value.slice K n' c').ownBlock := by cases K <;> rfl
theorem grown_trans {a b c : World} {row : Option Nat} (h : a.grownBy b row) (k : b.grownBy c row) : a.grownBy c row :=
  ⟨k.os.trans h.os, k.tape.trans h.tape, k.output.trans h.output, Nat.le_trans h.size k.size, fun i hi hne => (k.block i (Nat.lt_of_lt_of_le hi h.size) hne).trans (h.block i hi hne)⟩
theorem all_take {p : Value → Bool} {xs : List Value} (h : xs.all p = true) (k : Nat) : (xs.take k).all p = true ∧ (xs.drop k).all p = true := by
  rw [List.all_eq_true] at h
  exact ⟨List.all_eq_true.2 fun x hx => h x (List.mem_of_mem_take hx), List.all_eq_true.2 fun x hx => h x (List.mem_of_mem_drop hx)⟩
theorem splice1 {α : Type} (X sp xc : List α) {k : Nat} (h : X.length = k) : (X ++ sp).take k ++ xc ++ (X ++ sp).drop (k + xc.length) = X ++ xc ++ sp.drop xc.length := by
  subst h
  rw [List.take_left, List.drop_append]
  simp
theorem sizeof54 (w : World) : (Go.sizeOf 54).run Try.prog w = .ok 6 w := by
  obtain ⟨_, i, z, hi, _, h1, _⟩ := sl52
  simp [sizeOf, typeInfo, hi, h1]
theorem overlaps_no (w : World) (D g o : Nat) (xc cs : List Value) (lb cb : Nat) (hD : Blk w D xc 54) (hg : Blk w g cs 54) (hne : D ≠ g) (hcs : cs.length ≠ 0) :
    (callFunc 151 #[.slice (some ⟨D, 0, none⟩) 1 1, .slice (some ⟨g, o, none⟩) lb cb]).run Try.prog w = .ok (.value (.bool false)) w := by
  have h1 : w.shape? D = some (54, xc.length) := by unfold Blk at hD; simp [World.shape?, hD]
  have h2 : w.shape? g = some (54, cs.length) := by unfold Blk at hg; simp [World.shape?, hg]
  have h3 : w.frozen? ⟨D, 0, none⟩ = false := by unfold Blk at hD; simp [World.frozen?, hD]
  have h4 : w.frozen? ⟨D, xc.length, none⟩ = false := by unfold Blk at hD; simp [World.frozen?, hD]
  rw [run_callFunc_extern Try.func151 (by kernel_rfl) (by kernel_rfl) (by kernel_rfl) (e := Extern.SlicesOverlaps.overlaps #[52, 52] #[4]) (by kernel_rfl),
    Lib.run_overlaps_apart w 52 4 54 Try.underlying52 6 sizeof54 ⟨D, 0, none⟩ ⟨g, o, none⟩ 1 1 lb cb hne 54 54 _ _ h1 h2 hcs h3 h4]
  rfl
set_option maxRecDepth 100000 in
set_option maxHeartbeats 4000000 in
theorem insert_end {w : World} {K : Option Addr} {n kc : Nat} {xs xc : List Value} {D : Nat} (hown : w.ownsRow 0 54 6 (.slice K n kc) n xs) (hn : n + 1 ≤ 1048576) (hD : Blk w D xc 54) (hxl : xc.length = 6) (hx1 : xc.all (·.oneCell') = true) :
    Calls Try.prog 123 #[.slice K n kc, .int .i64 n, .slice (some ⟨D, 0, none⟩) 1 1] w (InsPost w K (n + 1) kc (xs ++ xc)) := by
  obtain ⟨c1, c2, c3, c4⟩ := own_cap hown
  have kown := Hd.mk hown
  have kD := Hd.mk hD
  have c2' : kc ≤ 9223372036854775807 := c2
  clear hown hD
  have fin : ∀ K0 kc0, (Value.slice K0 n kc0) = .slice K n kc → ∀ v' w', w'.ownsRow 0 54 6 v' (n + 1) (xs ++ xc) → w.grownBy w' (Value.slice K0 n kc0).ownBlock → (v'.ownBlock = (Value.slice K0 n kc0).ownBlock ∨ v'.ownBlock = some w.heap.size) → InsPost w K (n + 1) kc (xs ++ xc) (.returned v') w' := by
    intro K0 kc0 he v' w' h1 h2 h3
    obtain ⟨A, cap, rfl, _⟩ := own_slice h1
    rw [he] at h2 h3
    exact ⟨A, cap, rfl, h1, by rw [own_any_n (n' := n) (c' := kc)]; exact h2, by
      rcases h3 with h3 | h3
      · exact .inl (h3.trans own_any_n)
      · exact .inr (.inl h3)⟩
  replace fin := Hd.mk fin
  cases K with
  | none =>
    obtain rfl := c3 rfl
    obtain rfl : n = 0 := by omega
    go_enter Try.func123, Try.ntmps123
    go_wp2_with ((with_reducible refine stop_at (.call { callee := .builtin .append, args := #[.tmp 23, .tmp 24], argTypes := #[52, 52] }) ?_))
    refine Stop.mk ?_
    refine wpl_append sl52 (by omega) (by omega) (.tmp 23) (.tmp 24) 25 _ _ _ 0 _ 0 xs rfl kown.out D 0 1 1 xc rfl (by rw [hxl]) (fun j u hj => by rw [Nat.zero_add, kD.out.cell]; exact hj) hx1 (by omega) (Nat.zero_le _) fun v' w' h1 h2 h3 => ?_
    have hfin := Hd.mk (fin.out none 0 rfl v' w' h1 h2 h3)
    clear h1 h2 h3
    go_wp2_with fail
    go_ret
    exact hfin.out
  | some ad =>
    obtain ⟨g, rfl, _, hgl⟩ := c4 ad rfl
    by_cases hk : kc = n
    · subst hk
      go_enter Try.func123, Try.ntmps123
      go_wp2_with ((with_reducible refine stop_at (.call { callee := .builtin .append, args := #[.tmp 23, .tmp 24], argTypes := #[52, 52] }) ?_))
      refine Stop.mk ?_
      refine wpl_append sl52 (by omega) (by omega) (.tmp 23) (.tmp 24) 25 _ _ _ 0 _ kc xs rfl kown.out D 0 1 1 xc rfl (by rw [hxl]) (fun j u hj => by rw [Nat.zero_add, kD.out.cell]; exact hj) hx1 (by omega) (Nat.zero_le _) fun v' w' h1 h2 h3 => ?_
      have hfin := Hd.mk (fin.out _ _ rfl v' w' h1 h2 h3)
      clear h1 h2 h3
      go_wp2_with fail
      go_ret
      exact hfin.out
    · go_enter Try.func123, Try.ntmps123
      go_wp2_with ((with_reducible refine stop_at (.call { callee := .builtin .append, args := #[.tmp 23, .tmp 24], argTypes := #[52, 52] }) ?_))
      refine Stop.mk ?_
      refine wpl_append sl52 (by omega) (by omega) (.tmp 23) (.tmp 24) 25 _ _ _ 0 _ n xs rfl kown.out D 0 1 1 xc rfl (by rw [hxl]) (fun j u hj => by rw [Nat.zero_add, kD.out.cell]; exact hj) hx1 (by omega) (Nat.zero_le _) fun v' w' h1 h2 h3 => ?_
      have hfin := Hd.mk (fin.out _ _ rfl v' w' h1 h2 h3)
      clear h1 h2 h3
      go_wp2_with fail
      go_ret
      exact hfin.out
set_option maxRecDepth 100000 in
set_option maxHeartbeats 4000000 in
theorem insert_grow {w : World} {g n i : Nat} {xs xc : List Value} {D : Nat} (hg : Blk w g xs 54) (hxn : xs.length = n * 6) (hi : i < n) (hn : n + 1 ≤ 1048576) (hD : Blk w D xc 54) (hxl : xc.length = 6) (hx1 : xc.all (·.oneCell') = true) (h1 : xs.all (·.oneCell') = true) :
    Calls Try.prog 123 #[.slice (some ⟨g, 0, none⟩) n n, .int .i64 i, .slice (some ⟨D, 0, none⟩) 1 1] w (InsPost w (some ⟨g, 0, none⟩) (n + 1) n (xs.take (i * 6) ++ xc ++ xs.drop (i * 6))) := by
  have kg := Hd.mk hg
  have kD := Hd.mk hD
  have a1 : ¬ (n = i) := by omega
  have a2 : ¬ ((i : Int) = (n : Int)) := by omega
  have a3 : (i : Int) ≤ (n : Int) + 1 := by omega
  clear hg hD
  go_enter Try.func123, Try.ntmps123
  go_wp2_with ((with_reducible refine stop_at (.call { callee := .builtin .append, args := #[.tmp 34, .tmp 39], argTypes := #[52, 3] }) ?_))
  refine Stop.mk ?_
  refine wpl_append_zeros (sz := 6) (by_ := 88) sl52 (by omega) (by omega) Try.underlying3 (.tmp 34) (.tmp 39) 40 _ _ _ ⟨g, 0, none⟩ i n rfl .i64 (n + 1 - i) (show Value.int .i64 _ = _ by congr 1; omega) (xs.take (i * 6)) (by rw [List.length_take]; omega)
    (fun j v hj => by
      rw [addr_add, Nat.zero_add, kg.out.cell]
      rw [List.getElem?_take] at hj
      split at hj
      · exact hj
      · cases hj) (by omega) (by omega) (by omega) ?_
  intro cap sp w1 hx1' hsz hb hcl hcap hcm
  have e1 : i + (n + 1 - i) = n + 1 := by omega
  rw [e1] at hcap ⊢
  have kb := Hd.mk hb
  have kx := Hd.mk hx1'
  have kg1 := Hd.mk (kg.out.ext hx1')
  have kD1 := Hd.mk (kD.out.ext hx1')
  have hcl := Hd.mk hcl
  have hsz := Hd.mk hsz
  have hG := Hd.mk kg.out.lt
  generalize hGs : w.heap.size = G at *
  replace hGs := Hd.mk hGs
  have b1 : ¬ (cap = i) := by omega
  have b2 : ¬ (cap = i + 1) := by omega
  have b3 : cap ≤ 9223372036854775807 := hcm
  clear hb hx1'
  go_wp2_with ((with_reducible refine stop_at (.call { callee := .builtin .copy, args := #[.tmp 43, .tmp 44], argTypes := #[52, 52] }) ?_))
  refine Stop.mk ?_
  refine wpl_copy sl52 (.tmp 43) (.tmp 44) (some 45) 52 _ _ _ G _ _ _ rfl ⟨D, 0, none⟩ 1 1 rfl (xs.take (i * 6) ++ sp) 54 xc kb.out (by rw [hxl, show Nat.min 1 (n + 1 - i) = 1 from Nat.min_eq_left (by omega)]) (fun j v hj => by rw [addr_add, Nat.zero_add, kD1.out.cell]; exact hj) (by rw [hcl.out, hxl]; omega) hx1 ?_
  intro w2 hu2 hb2
  simp only [Act.put, List.setIfInBounds_toArray, List.set_cons_succ, List.set_cons_zero]
  rw [splice1 _ _ _ (by rw [List.length_take]; omega), hxl] at hb2
  have hgG : g ≠ G := by have := hG.out; omega
  have kg2 := Hd.mk (hu2.blk hgG kg1.out)
  have kx2 := Hd.mk (show Ext w w2 from Below.trans kx.out (hu2.below (by rw [hGs.out]; exact Nat.le_refl _)))
  have kb2 := Hd.mk hb2
  clear hu2 hb2 kg1 kD1 kb kx hgG
  have i1 : ((i : Int) + 1).toNat = i + 1 := by omega
  have i2 : (0 : Int) ≤ (i : Int) + 1 := by omega
  have i3 : (i : Int) + 1 ≤ (n : Int) + 1 := by omega
  have i4 : (i : Int) ≤ (n : Int) := by omega
  have i5 : IntKind.i64.wrap ((i : Int) + 1) = (i : Int) + 1 := by rw [IntKind.wrap_i64]; omega
  go_wp2_with fail
  refine Flow.wp_region_flow_l (fun qq => match qq with
    | 46 => SP.eq (.slice (some ⟨G, 0, none⟩) (n + 1) cap)
    | 47 => SP.eq (.int .i64 (i : Nat))
    | 48 => SP.eq (.int .i64 1)
    | 49 => SP.eq (.int .i64 ((i : Int) + 1))
    | 50 => SP.eq (.slice (some ⟨G, (i + 1) * 6, none⟩) (n - i) (cap - (i + 1)))
    | 51 => SP.eq (.slice (some ⟨g, 0, none⟩) n n)
    | 52 => SP.eq (.int .i64 (i : Nat))
    | 53 => SP.eq (.slice (some ⟨g, i * 6, none⟩) (n - i) (n - i))
    | _ => SP.any) 8 (by kernel_rfl) 95 rfl (by kernel_rfl) ?_ ?_
  · skip
    refine ⟨?_, ?_, ?_, ?_, ?_, ?_, ?_, ?_, trivial⟩
    · intro act W2 hk
      refine Flow.does_intro rfl (fun Kq hK => ?_)
      have e9 : act.tmps[9]?.getD undef = .slice (some ⟨G, 0, none⟩) (n + 1) cap := hk.o 9 (by kernel_rfl)
      clear hk
      go_simp
      exact hK _ _ (Ext.refl _) (fun d hd => by cases hd; rfl)
    · intro act W2 hk
      refine Flow.does_intro rfl (fun Kq hK => ?_)
      have e1 : act.tmps[1]?.getD undef = .int .i64 (i : Nat) := hk.o 1 (by kernel_rfl)
      clear hk
      go_simp
      exact hK _ _ (Ext.refl _) (fun d hd => by cases hd; rfl)
    · intro act W2 hk
      refine Flow.does_intro rfl (fun Kq hK => ?_)
      have e7 : act.tmps[7]?.getD undef = .int .i64 1 := hk.o 7 (by kernel_rfl)
      clear hk
      go_simp
      exact hK _ _ (Ext.refl _) (fun d hd => by cases hd; rfl)
    · intro act W2 hk
      refine Flow.does_intro rfl (fun Kq hK => ?_)
      have e47 : act.tmps[47]?.getD undef = .int .i64 (i : Nat) := hk.v 47 (by kernel_rfl)
      have e48 : act.tmps[48]?.getD undef = .int .i64 1 := hk.v 48 (by kernel_rfl)
      clear hk
      go_simp
      exact hK _ _ (Ext.refl _) (fun d hd => by cases hd; rfl)
    · intro act W2 hk
      refine Flow.does_intro rfl (fun Kq hK => ?_)
      have e46 : act.tmps[46]?.getD undef = .slice (some ⟨G, 0, none⟩) (n + 1) cap := hk.v 46 (by kernel_rfl)
      have e49 : act.tmps[49]?.getD undef = .int .i64 ((i : Int) + 1) := hk.v 49 (by kernel_rfl)
      clear hk
      go_simp
      exact hK _ _ (Ext.refl _) (fun d hd => by cases hd; simp [SP.eq])
    · intro act W2 hk
      refine Flow.does_intro rfl (fun Kq hK => ?_)
      have e0 : act.tmps[0]?.getD undef = .slice (some ⟨g, 0, none⟩) n n := hk.o 0 (by kernel_rfl)
      clear hk
      go_simp
      exact hK _ _ (Ext.refl _) (fun d hd => by cases hd; rfl)
    · intro act W2 hk
      refine Flow.does_intro rfl (fun Kq hK => ?_)
      have e1 : act.tmps[1]?.getD undef = .int .i64 (i : Nat) := hk.o 1 (by kernel_rfl)
      clear hk
      go_simp
      exact hK _ _ (Ext.refl _) (fun d hd => by cases hd; rfl)
    · intro act W2 hk
      refine Flow.does_intro rfl (fun Kq hK => ?_)
      have e51 : act.tmps[51]?.getD undef = .slice (some ⟨g, 0, none⟩) n n := hk.v 51 (by kernel_rfl)
      have e52 : act.tmps[52]?.getD undef = .int .i64 (i : Nat) := hk.v 52 (by kernel_rfl)
      clear hk
      go_simp
      exact hK _ _ (Ext.refl _) (fun d hd => by cases hd; simp [SP.eq])
  · intro act W2 he
    have hxW2 := Hd.mk ((Ext.drew w2).trans he.ext)
    obtain ⟨us, hA, hF⟩ := he.out [46, 47, 48, 49, 50, 51, 52, 53] (by kernel_rfl)
    simp only [Flow.fillL, List.contains_cons, List.contains_nil, Nat.reduceBEq, Bool.or_false, Bool.false_or, Bool.or_true, Bool.true_or, ↓reduceIte, Nat.reduceAdd, Bool.false_eq_true] at hA
    subst hA
    have f50 : us 50 = .slice (some ⟨G, (i + 1) * 6, none⟩) (n - i) (cap - (i + 1)) := hF 50 (by simp)
    have f53 : us 53 = .slice (some ⟨g, i * 6, none⟩) (n - i) (n - i) := hF 53 (by simp)
    clear hF he
    rw [f50]
    clear f50
    rw [f53]
    clear f53
    refine (show wpList _ _ _ (⟨some 54, .call { callee := .builtin .copy, args := #[.tmp 50, .tmp 53], argTypes := #[52, 52] }, _, _, _, none⟩ :: []) _ _ from ?_)
    have kg3 := Hd.mk (kg2.out.ext hxW2.out)
    have kb3 := Hd.mk (kb2.out.ext hxW2.out)
    have hxl1 : (xs.take (i * 6) ++ xc).length = (i + 1) * 6 := by rw [List.length_append, List.length_take, hxl]; omega
    have hspl : sp.length = cap * 6 - i * 6 := by have := hcl.out; rw [List.length_append, List.length_take] at this; omega
    have hdl : (xs.drop (i * 6)).length = (n - i) * 6 := by rw [List.length_drop, hxn]; omega
    refine wpl_copy sl52 (.tmp 50) (.tmp 53) (some 54) 52 _ _ _ G _ _ _ rfl ⟨g, i * 6, none⟩ (n - i) (n - i) rfl (xs.take (i * 6) ++ xc ++ sp.drop 6) 54 (xs.drop (i * 6)) kb3.out (by rw [hdl, show Nat.min (n - i) (n - i) = n - i from Nat.min_self _]) (fun j v hj => by rw [addr_add, kg3.out.cell]; rw [List.getElem?_drop] at hj; exact hj) (by rw [List.length_append, hxl1, hdl, List.length_drop, hspl]; omega) (all_take h1 _).2 ?_
    intro w3 hu3 hb3
    simp only [Act.put, List.setIfInBounds_toArray, List.set_cons_succ, List.set_cons_zero]
    rw [splice1 _ _ _ hxl1, hdl] at hb3
    have kx3 := Hd.mk (show Ext w w3 from Below.trans (kx2.out.trans hxW2.out) (hu3.below (by rw [hGs.out]; exact Nat.le_refl _)))
    have kb4 := Hd.mk hb3
    clear hb3 hu3 kb3 kg3
    refine (show wpList _ _ _ [] _ _ from ?_)
    go_wp2_with fail
    go_ret
    refine ⟨some ⟨G, 0, none⟩, cap, rfl, own_intro (Nat.zero_le _) kb4.out (by omega) hcm (by rw [List.length_append, List.length_append, hxl1, hdl, List.length_drop, List.length_drop, hspl]; omega) (by rw [List.length_append, hxl1, hdl]; omega), grown_ext kx3.out, .inr (.inl ?_)⟩
    rw [hGs.out]; rfl
theorem shift1 {α : Type} (A B sp xc : List α) {a : Nat} (hA : A.length = a) (h6 : xc.length = 6) (hB : 6 ≤ B.length) :
    ((A ++ B ++ sp).take (a + 6) ++ B ++ (A ++ B ++ sp).drop (a + 6 + B.length)).take a ++ xc ++ ((A ++ B ++ sp).take (a + 6) ++ B ++ (A ++ B ++ sp).drop (a + 6 + B.length)).drop (a + xc.length) = A ++ xc ++ B ++ sp.drop 6 := by
  subst hA
  have e1 : (A ++ B ++ sp).take (A.length + 6) = A ++ B.take 6 := by
    rw [List.append_assoc, List.take_append, List.take_of_length_le (by omega : A.length ≤ A.length + 6), show A.length + 6 - A.length = 6 by omega, List.take_append_of_le_length hB]
  have e2 : (A ++ B ++ sp).drop (A.length + 6 + B.length) = sp.drop 6 := by
    rw [List.drop_append, List.drop_of_length_le (by rw [List.length_append]; omega), List.nil_append]
    congr 1
    simp only [List.length_append]
    omega
  rw [e1, e2, h6]
  have e3 : (A ++ B.take 6 ++ B ++ sp.drop 6).take A.length = A := by simp [List.append_assoc]
  have e4 : (A ++ B.take 6 ++ B ++ sp.drop 6).drop (A.length + 6) = B ++ sp.drop 6 := by
    rw [List.append_assoc (A ++ B.take 6)]
    have : A.length + 6 = (A ++ B.take 6).length := by simp; omega
    rw [this, List.drop_left]
  rw [e3, e4]
  simp [List.append_assoc]
set_option maxRecDepth 100000 in
set_option maxHeartbeats 4000000 in
theorem insert_room {w : World} {g n kc i : Nat} {xs sp xc : List Value} {D : Nat} (hg : Blk w g (xs ++ sp) 54) (hxn : xs.length = n * 6) (hi : i < n) (hn : n + 1 ≤ 1048576) (hk : n + 1 ≤ kc) (hkm : kc ≤ maxLen) (hcl : (xs ++ sp).length = kc * 6)
    (hD : Blk w D xc 54) (hne : D ≠ g) (hxl : xc.length = 6) (hx1 : xc.all (·.oneCell') = true) (h1 : xs.all (·.oneCell') = true) :
    Calls Try.prog 123 #[.slice (some ⟨g, 0, none⟩) n kc, .int .i64 i, .slice (some ⟨D, 0, none⟩) 1 1] w (InsPost w (some ⟨g, 0, none⟩) (n + 1) kc (xs.take (i * 6) ++ xc ++ xs.drop (i * 6))) := by
  have kg := Hd.mk hg
  have kD := Hd.mk hD
  have hov : ∀ (o lb cb : Nat), (callFunc 151 #[.slice (some ⟨D, 0, none⟩) 1 1, .slice (some ⟨g, o, none⟩) lb cb]).run Try.prog w = .ok (.value (.bool false)) w := fun o lb cb => overlaps_no w D g o xc _ lb cb hD hg hne (by rw [hcl]; omega)
  have a1 : ¬ (kc = i) := by omega
  have a2 : ¬ ((i : Int) = (n : Int)) := by omega
  have a3 : (i : Int) ≤ (n : Int) + 1 := by omega
  have a4 : ¬ (kc = i + 1) := by omega
  have i1 : ((i : Int) + 1).toNat = i + 1 := by omega
  have i2 : (0 : Int) ≤ (i : Int) + 1 := by omega
  have i3 : (i : Int) + 1 ≤ (n : Int) + 1 := by omega
  have i4 : (i : Int) ≤ (n : Int) := by omega
  have i5 : IntKind.i64.wrap ((i : Int) + 1) = (i : Int) + 1 := by rw [IntKind.wrap_i64]; omega
  have a5 : kc ≤ 9223372036854775807 := hkm
  clear hg hD
  go_enter Try.func123, Try.ntmps123
  go_wp2_with (simp only [hov])
  refine Flow.wp_region_flow_l (fun qq => match qq with
    | 69 => SP.eq (.slice (some ⟨g, 0, none⟩) (n + 1) kc)
    | 70 => SP.eq (.int .i64 (i : Nat))
    | 71 => SP.eq (.int .i64 1)
    | 72 => SP.eq (.int .i64 ((i : Int) + 1))
    | 73 => SP.eq (.slice (some ⟨g, (i + 1) * 6, none⟩) (n - i) (kc - (i + 1)))
    | 74 => SP.eq (.slice (some ⟨g, 0, none⟩) (n + 1) kc)
    | 75 => SP.eq (.int .i64 (i : Nat))
    | 76 => SP.eq (.slice (some ⟨g, i * 6, none⟩) (n + 1 - i) (kc - i))
    | _ => SP.any) 8 (by kernel_rfl) 95 rfl (by kernel_rfl) ?_ ?_
  · skip
    refine ⟨?_, ?_, ?_, ?_, ?_, ?_, ?_, ?_, trivial⟩
    · intro act W2 hk
      refine Flow.does_intro rfl (fun Kq hK => ?_)
      have e0 : act.tmps[0]?.getD undef = .slice (some ⟨g, 0, none⟩) (n + 1) kc := hk.o 0 (by kernel_rfl)
      clear hk
      go_simp
      exact hK _ _ (Ext.refl _) (fun d hd => by cases hd; rfl)
    · intro act W2 hk
      refine Flow.does_intro rfl (fun Kq hK => ?_)
      have e1 : act.tmps[1]?.getD undef = .int .i64 (i : Nat) := hk.o 1 (by kernel_rfl)
      clear hk
      go_simp
      exact hK _ _ (Ext.refl _) (fun d hd => by cases hd; rfl)
    · intro act W2 hk
      refine Flow.does_intro rfl (fun Kq hK => ?_)
      have e7 : act.tmps[7]?.getD undef = .int .i64 1 := hk.o 7 (by kernel_rfl)
      clear hk
      go_simp
      exact hK _ _ (Ext.refl _) (fun d hd => by cases hd; rfl)
    · intro act W2 hk
      refine Flow.does_intro rfl (fun Kq hK => ?_)
      have e70 : act.tmps[70]?.getD undef = .int .i64 (i : Nat) := hk.v 70 (by kernel_rfl)
      have e71 : act.tmps[71]?.getD undef = .int .i64 1 := hk.v 71 (by kernel_rfl)
      clear hk
      go_simp
      exact hK _ _ (Ext.refl _) (fun d hd => by cases hd; rfl)
    · intro act W2 hk
      refine Flow.does_intro rfl (fun Kq hK => ?_)
      have e69 : act.tmps[69]?.getD undef = .slice (some ⟨g, 0, none⟩) (n + 1) kc := hk.v 69 (by kernel_rfl)
      have e72 : act.tmps[72]?.getD undef = .int .i64 ((i : Int) + 1) := hk.v 72 (by kernel_rfl)
      clear hk
      go_simp
      exact hK _ _ (Ext.refl _) (fun d hd => by cases hd; simp [SP.eq])
    · intro act W2 hk
      refine Flow.does_intro rfl (fun Kq hK => ?_)
      have e0 : act.tmps[0]?.getD undef = .slice (some ⟨g, 0, none⟩) (n + 1) kc := hk.o 0 (by kernel_rfl)
      clear hk
      go_simp
      exact hK _ _ (Ext.refl _) (fun d hd => by cases hd; rfl)
    · intro act W2 hk
      refine Flow.does_intro rfl (fun Kq hK => ?_)
      have e1 : act.tmps[1]?.getD undef = .int .i64 (i : Nat) := hk.o 1 (by kernel_rfl)
      clear hk
      go_simp
      exact hK _ _ (Ext.refl _) (fun d hd => by cases hd; rfl)
    · intro act W2 hk
      refine Flow.does_intro rfl (fun Kq hK => ?_)
      have e74 : act.tmps[74]?.getD undef = .slice (some ⟨g, 0, none⟩) (n + 1) kc := hk.v 74 (by kernel_rfl)
      have e75 : act.tmps[75]?.getD undef = .int .i64 (i : Nat) := hk.v 75 (by kernel_rfl)
      clear hk
      go_simp
      exact hK _ _ (Ext.refl _) (fun d hd => by cases hd; simp [SP.eq])
  · intro act W2 he
    have hxW2 := Hd.mk ((Ext.drew w).trans he.ext)
    obtain ⟨us, hA, hF⟩ := he.out [69, 70, 71, 72, 73, 74, 75, 76] (by kernel_rfl)
    simp only [Flow.fillL, List.contains_cons, List.contains_nil, Nat.reduceBEq, Bool.or_false, Bool.false_or, Bool.or_true, Bool.true_or, ↓reduceIte, Nat.reduceAdd, Bool.false_eq_true] at hA
    subst hA
    have f73 : us 73 = .slice (some ⟨g, (i + 1) * 6, none⟩) (n - i) (kc - (i + 1)) := hF 73 (by simp)
    have f76 : us 76 = .slice (some ⟨g, i * 6, none⟩) (n + 1 - i) (kc - i) := hF 76 (by simp)
    clear hF he
    rw [f73]
    clear f73
    rw [f76]
    clear f76
    refine (show wpList _ _ _ (⟨some 77, .call { callee := .builtin .copy, args := #[.tmp 73, .tmp 76], argTypes := #[52, 52] }, _, _, _, none⟩ :: []) _ _ from ?_)
    have kg3 := Hd.mk (kg.out.ext hxW2.out)
    have kD3 := Hd.mk (kD.out.ext hxW2.out)
    have hsp := Hd.mk (show sp.length = kc * 6 - n * 6 by rw [List.length_append] at hcl; omega)
    have hdl : (xs.drop (i * 6)).length = (n - i) * 6 := by rw [List.length_drop, hxn]; omega
    have htl : (xs.take (i * 6)).length = i * 6 := by rw [List.length_take, hxn]; omega
    refine wpl_copy sl52 (.tmp 73) (.tmp 76) (some 77) 52 _ _ _ g _ _ _ rfl ⟨g, i * 6, none⟩ (n + 1 - i) (kc - i) rfl (xs ++ sp) 54 (xs.drop (i * 6)) kg3.out (by rw [hdl, show Nat.min (n + 1 - i) (n - i) = n - i from Nat.min_eq_right (by omega)]) (fun j v hj => by rw [addr_add, kg3.out.cell, List.getElem?_append_left (by have := (List.getElem?_eq_some_iff.1 hj).1; rw [hdl] at this; omega)]; rw [List.getElem?_drop] at hj; exact hj) (by rw [hcl, hdl]; omega) (all_take h1 _).2 ?_
    intro w3 hu3 hb3
    simp only [Act.put, List.setIfInBounds_toArray, List.set_cons_succ, List.set_cons_zero]
    have kb3 := Hd.mk hb3
    have kD4 := Hd.mk (hu3.blk hne kD3.out)
    have kgr := Hd.mk (show w.grownBy w3 (some g) from grown_trans (grown_ext hxW2.out) (grown_upd hu3))
    clear hb3 hu3 hov kD3 kg3
    refine (show wpList _ _ _ [] _ _ from ?_)
    go_wp2_with ((with_reducible refine stop_at (.call { callee := .builtin .copy, args := #[.tmp 80, .tmp 81], argTypes := #[52, 52] }) ?_))
    refine Stop.mk ?_
    refine wpl_copy sl52 (.tmp 80) (.tmp 81) (some 82) 52 _ _ _ g _ _ _ rfl ⟨D, 0, none⟩ 1 1 rfl _ 54 xc kb3.out (by rw [hxl, show Nat.min 1 (n + 1 - i) = 1 from Nat.min_eq_left (by omega)]) (fun j v hj => by rw [addr_add, Nat.zero_add, kD4.out.cell]; exact hj) (by simp only [List.length_append, List.length_take, List.length_drop, hxn, hxl, hsp.out]; omega) hx1 ?_
    intro w4 hu4 hb4
    simp only [Act.put, List.setIfInBounds_toArray, List.set_cons_succ, List.set_cons_zero]
    have hsh := shift1 (xs.take (i * 6)) (xs.drop (i * 6)) sp xc htl hxl (by rw [hdl]; omega)
    rw [List.take_append_drop, show i * 6 + 6 = (i + 1) * 6 by omega] at hsh
    rw [hsh] at hb4
    have kb4 := Hd.mk hb4
    replace kgr := Hd.mk (grown_trans kgr.out (grown_upd hu4))
    clear hb4 hu4 hsh kb3 kD4
    refine (show wpList _ _ _ [] _ _ from ?_)
    go_wp2_with fail
    go_ret
    refine ⟨some ⟨g, 0, none⟩, kc, rfl, own_intro (Nat.zero_le _) kb4.out hk hkm (by rw [List.length_append, List.length_append, List.length_append, htl, hdl, hxl, List.length_drop, hsp.out]; omega) (by rw [List.length_append, List.length_append, htl, hdl, hxl]; omega), kgr.out, .inl rfl⟩
theorem slices_insert {w : World} {K : Option Addr} {n kc i : Nat} {xs xc : List Value} {D : Nat} (hown : w.ownsRow 0 54 6 (.slice K n kc) n xs) (hi : i ≤ n) (hn : n + 1 ≤ 1048576) (hD : Blk w D xc 54) (hne : (Value.slice K n kc).ownBlock ≠ some D)
    (hxl : xc.length = 6) (hx1 : xc.all (·.oneCell') = true) (h1 : xs.all (·.oneCell') = true) :
    Calls Try.prog 123 #[.slice K n kc, .int .i64 i, .slice (some ⟨D, 0, none⟩) 1 1] w (InsPost w K (n + 1) kc (xs.take (i * 6) ++ xc ++ xs.drop (i * 6))) := by
  have hxn := hown.1
  by_cases he : i = n
  · subst he
    rw [List.take_of_length_le (by omega), List.drop_of_length_le (by omega), List.append_nil]
    exact insert_end hown hn hD hxl hx1
  · obtain ⟨g, cap, sp, hv, _, hb, hc, hm, hs⟩ := own_form hown (by omega)
    simp only [Value.slice.injEq, true_and] at hv
    obtain ⟨rfl, rfl⟩ := hv
    have hDg : D ≠ g := fun e => hne (by rw [e]; rfl)
    by_cases hk : n + 1 ≤ kc
    · exact insert_room hb hxn (by omega) hn hk hm hs hD hDg hxl hx1 h1
    · obtain rfl : kc = n := by omega
      have hsp : sp = [] := List.eq_nil_of_length_eq_zero (by rw [List.length_append] at hs; omega)
      subst hsp
      rw [List.append_nil] at hb
      exact insert_grow hb hxn (by omega) hn hD hxl hx1 h1
end Go.Proofs.Ytgkgedjmnbjalaa
set_option linter.unusedSimpArgs false
namespace Go.Proofs.Ytgkgedjmnbjalaa
open Go.RowKit Go.Sort
theorem splice2 {α : Type} (A C R : List α) {a c : Nat} (hA : A.length = a) (hC : C.length = c) (zs : List α) :
    ((A ++ R).take a ++ C ++ (A ++ R).drop (a + c)).take (a + c) ++ zs ++ ((A ++ R).take a ++ C ++ (A ++ R).drop (a + c)).drop (a + c + 6) = A ++ C ++ (zs ++ ((A ++ R).drop (a + c)).drop 6) := by
  subst hA hC
  rw [List.take_left]
  have e1 : (A ++ C ++ (A ++ R).drop (A.length + C.length)).take (A.length + C.length) = A ++ C := by
    rw [show A.length + C.length = (A ++ C).length by simp, List.take_left]
  have e2 : (A ++ C ++ (A ++ R).drop (A.length + C.length)).drop (A.length + C.length + 6) = ((A ++ R).drop (A.length + C.length)).drop 6 := by
    rw [List.drop_append, List.drop_of_length_le (by rw [List.length_append]; omega), List.nil_append]
    congr 1
    rw [List.length_append]
    omega
  rw [e1, e2, List.append_assoc (A ++ C)]
set_option maxRecDepth 100000 in
set_option maxHeartbeats 4000000 in
theorem slices_delete {w : World} {g n kc i : Nat} {xs sp : List Value} (hg : Blk w g (xs ++ sp) 54) (hxn : xs.length = n * 6) (hi : i < n) (hn : n ≤ 1048576) (hk : n ≤ kc) (hkm : kc ≤ maxLen) (hcl : (xs ++ sp).length = kc * 6) (h1 : xs.all (·.oneCell') = true) :
    Calls Try.prog 125 #[.slice (some ⟨g, 0, none⟩) n kc, .int .i64 i, .int .i64 (i + 1 : Nat)] w fun e w' => e = .returned (.slice (some ⟨g, 0, none⟩) (n - 1) kc) ∧
      w'.ownsRow 0 54 6 (.slice (some ⟨g, 0, none⟩) (n - 1) kc) (n - 1) (xs.take (i * 6) ++ xs.drop ((i + 1) * 6)) ∧ w.grownBy w' (some g) := by
  have kg := Hd.mk hg
  have hkm2 : kc ≤ 9223372036854775807 := hkm
  have a1 : ¬ (n = i) := by omega
  have a2 : ¬ ((i : Int) = ((i + 1 : Nat) : Int)) := by omega
  have a3 : i ≤ i + 1 := by omega
  have a4 : i + 1 ≤ n := by omega
  have a5 : i + (n - (i + 1)) = n - 1 := by omega
  have a6 : n - 1 ≤ n := by omega
  have a7 : ¬ (kc = n - 1) := by omega
  have a8 : i ≤ kc := by omega
  have a9 : (i : Int) + 1 ≤ (n : Int) := by omega
  have b1 : ((i : Int) + 1).toNat = i + 1 := by omega
  have b2 : (0 : Int) ≤ (i : Int) + 1 := by omega
  have hsp := Hd.mk (show sp.length = kc * 6 - n * 6 by rw [List.length_append] at hcl; omega)
  have hdl : (xs.drop ((i + 1) * 6)).length = (n - (i + 1)) * 6 := by rw [List.length_drop, hxn]; omega
  have htl : (xs.take (i * 6)).length = i * 6 := by rw [List.length_take, hxn]; omega
  have hone := Hd.mk (all_take h1 ((i + 1) * 6)).2
  have hdl := Hd.mk hdl
  have htl := Hd.mk htl
  have hcl := Hd.mk hcl
  clear hg h1
  go_enter Try.func125, Try.ntmps125
  go_wp2_with fail
  refine Flow.wp_region_flow_l (fun qq => match qq with
    | 20 => SP.eq (.slice (some ⟨g, 0, none⟩) n kc)
    | 21 => SP.eq (.int .i64 (i : Nat))
    | 22 => SP.eq (.slice (some ⟨g, 0, none⟩) i kc)
    | 23 => SP.eq (.slice (some ⟨g, 0, none⟩) n kc)
    | 24 => SP.eq (.int .i64 (i + 1 : Nat))
    | 25 => SP.eq (.slice (if kc = i + 1 then some ⟨g, 0, none⟩ else some ⟨g, (i + 1) * 6, none⟩) (n - (i + 1)) (kc - (i + 1)))
    | _ => SP.any) 6 (by kernel_rfl) 33 rfl (by kernel_rfl) ?_ ?_
  · skip
    refine ⟨?_, ?_, ?_, ?_, ?_, ?_, trivial⟩
    · intro act W2 hk
      refine Flow.does_intro rfl (fun Kq hK => ?_)
      have e0 : act.tmps[0]?.getD undef = .slice (some ⟨g, 0, none⟩) n kc := hk.o 0 (by kernel_rfl)
      clear hk
      go_simp
      exact hK _ _ (Ext.refl _) (fun d hd => by cases hd; rfl)
    · intro act W2 hk
      refine Flow.does_intro rfl (fun Kq hK => ?_)
      have e1 : act.tmps[1]?.getD undef = .int .i64 (i : Nat) := hk.o 1 (by kernel_rfl)
      clear hk
      go_simp
      exact hK _ _ (Ext.refl _) (fun d hd => by cases hd; rfl)
    · intro act W2 hk
      refine Flow.does_intro rfl (fun Kq hK => ?_)
      have e20 : act.tmps[20]?.getD undef = .slice (some ⟨g, 0, none⟩) n kc := hk.v 20 (by kernel_rfl)
      have e21 : act.tmps[21]?.getD undef = .int .i64 (i : Nat) := hk.v 21 (by kernel_rfl)
      clear hk
      go_simp
      exact hK _ _ (Ext.refl _) (fun d hd => by cases hd; simp [SP.eq])
    · intro act W2 hk
      refine Flow.does_intro rfl (fun Kq hK => ?_)
      have e0 : act.tmps[0]?.getD undef = .slice (some ⟨g, 0, none⟩) n kc := hk.o 0 (by kernel_rfl)
      clear hk
      go_simp
      exact hK _ _ (Ext.refl _) (fun d hd => by cases hd; rfl)
    · intro act W2 hk
      refine Flow.does_intro rfl (fun Kq hK => ?_)
      have e2 : act.tmps[2]?.getD undef = .int .i64 (i + 1 : Nat) := hk.o 2 (by kernel_rfl)
      clear hk
      go_simp
      exact hK _ _ (Ext.refl _) (fun d hd => by cases hd; rfl)
    · intro act W2 hk
      refine Flow.does_intro rfl (fun Kq hK => ?_)
      have e23 : act.tmps[23]?.getD undef = .slice (some ⟨g, 0, none⟩) n kc := hk.v 23 (by kernel_rfl)
      have e24 : act.tmps[24]?.getD undef = .int .i64 (i + 1 : Nat) := hk.v 24 (by kernel_rfl)
      clear hk
      go_simp
      exact hK _ _ (Ext.refl _) (fun d hd => by cases hd; simp [SP.eq])
  · intro act W2 he
    have hxW2 := Hd.mk ((Ext.drew w).trans he.ext)
    obtain ⟨us, hA, hF⟩ := he.out [20, 21, 22, 23, 24, 25] (by kernel_rfl)
    simp only [Flow.fillL, List.contains_cons, List.contains_nil, Nat.reduceBEq, Bool.or_false, Bool.false_or, Bool.or_true, Bool.true_or, ↓reduceIte, Nat.reduceAdd, Bool.false_eq_true] at hA
    subst hA
    have f22 : us 22 = .slice (some ⟨g, 0, none⟩) i kc := hF 22 (by simp)
    have f25 : us 25 = .slice (if kc = i + 1 then some ⟨g, 0, none⟩ else some ⟨g, (i + 1) * 6, none⟩) (n - (i + 1)) (kc - (i + 1)) := hF 25 (by simp)
    clear hF he
    rw [f22]
    clear f22
    rw [f25]
    clear f25
    refine (show wpList _ _ _ (⟨some 26, .call { callee := .builtin .append, args := #[.tmp 22, .tmp 25], argTypes := #[52, 52] }, _, _, _, none⟩ :: _) _ _ from ?_)
    have kg3 := Hd.mk (kg.out.ext hxW2.out)
    have hdl1 := hdl.out
    have htl1 := htl.out
    have hcl1 := hcl.out
    obtain ⟨ad, had, hsrc⟩ : ∃ ad : Addr, (if kc = i + 1 then some ⟨g, 0, none⟩ else some ⟨g, (i + 1) * 6, none⟩ : Option Addr) = some ad ∧ ∀ (j : Nat) v, (xs.drop ((i + 1) * 6))[j]? = some v → W2.cell? (ad.add j) = some v := by
      by_cases hkc : kc = i + 1
      · exact ⟨_, if_pos hkc, fun j v hj => absurd (List.getElem?_eq_some_iff.1 hj).1 (by rw [hdl1]; omega)⟩
      · refine ⟨_, if_neg hkc, fun j v hj => ?_⟩
        rw [addr_add, kg3.out.cell, List.getElem?_append_left (by have := (List.getElem?_eq_some_iff.1 hj).1; rw [hdl1] at this; omega)]
        rw [List.getElem?_drop] at hj; exact hj
    rw [had]
    refine wpl_append_room sl52 (.tmp 22) (.tmp 25) 26 _ _ _ g i kc rfl ad _ _ rfl (xs ++ sp) (xs.drop ((i + 1) * 6)) kg3.out (by rw [hdl1]) hsrc (by omega) (by rw [hcl1, hdl1]; omega) hone.out ?_
    intro w3 hu3 hb3
    have kb3 := Hd.mk hb3
    have kgr := Hd.mk (show w.grownBy w3 (some g) from grown_trans (grown_ext hxW2.out) (grown_upd hu3))
    clear hb3 hu3 kg3 hsrc
    rw [a5]
    go_wp2_with ((with_reducible refine stop_at (.call { callee := .builtin .clear, args := #[.tmp 31], argTypes := #[52] }) ?_))
    refine Stop.mk ?_
    rw [show n - (n - 1) = 1 by omega]
    refine wpl_clear sl52 (.tmp 31) none _ _ _ g _ 1 _ rfl (by omega) _ 54 kb3.out (by simp only [List.length_append, List.length_take, List.length_drop, hxn, hsp.out]; omega) zero54 ?_
    intro w4 zs hzs hu4 hb4
    have hRR : (xs.take (i * 6)).length + (xs.drop (i * 6) ++ sp).length = kc * 6 := by rw [← List.length_append, ← List.append_assoc, List.take_append_drop]; exact hcl1
    have e1 : xs ++ sp = xs.take (i * 6) ++ (xs.drop (i * 6) ++ sp) := by rw [← List.append_assoc, List.take_append_drop]
    rw [e1] at hb4
    have e2 : (n - 1) * 6 = i * 6 + (n - (i + 1)) * 6 := by omega
    rw [hdl1, e2, show i * 6 + (n - (i + 1)) * 6 + 1 * 6 = i * 6 + (n - (i + 1)) * 6 + 6 by omega, splice2 _ _ _ htl1 hdl1] at hb4
    have kb4 := Hd.mk hb4
    replace kgr := Hd.mk (grown_trans kgr.out (grown_upd hu4))
    clear hb4 hu4 kb3
    simp only [Act.put]
    refine (show wpList _ _ _ [] _ _ from ?_)
    go_wp2_with fail
    go_ret
    exact ⟨rfl, own_intro (Nat.zero_le _) kb4.out (by omega) hkm (by simp only [List.length_append, List.length_drop, List.length_take, hzs, hxn, hsp.out]; omega) (by rw [List.length_append, htl1, hdl1]; omega), kgr.out⟩
def Stands (l : List T) (x : T) (i : Nat) : Prop := i ≤ l.length ∧ (∀ (p : Nat) y, p < i → l[p]? = some y → lessT y x = true) ∧ ∀ (p : Nat) y, i ≤ p → l[p]? = some y → lessT y x = false
theorem srt_get {l : List T} (h : Srt l) {p q : Nat} {y z : T} (hpq : p < q) (hp : l[p]? = some y) (hq : l[q]? = some z) : lessT y z = true := by
  obtain ⟨h1, rfl⟩ := List.getElem?_eq_some_iff.1 hp
  obtain ⟨h2, rfl⟩ := List.getElem?_eq_some_iff.1 hq
  exact List.pairwise_iff_getElem.1 h p q h1 h2 hpq
set_option maxRecDepth 100000 in
set_option maxHeartbeats 4000000 in
theorem nodes_search (l : List T) (x : T) (S : Nat → Prop) (w : World) (K : Option Addr) (c : Nat) (Kx : Option Addr) (cx : Nat) (hs : Srt l) (hr : RRow S w K l c) :
    Calls Try.prog 122 #[.slice K l.length c, .agg #[.string x.name, .string x.key, .int .i64 x.kind, .int .u64 x.num, .string x.text, .slice Kx x.kids.length cx], .func (.func 116) #[] #[]] w fun e w' => ∃ (i : Nat) (b : Bool), e = .returned (.tuple #[.int .i64 i, .bool b]) ∧ Stands l x i ∧ Ext w w' := by
  have kr := Hd.mk hr
  have hl := hr.len
  have hs := Hd.mk hs
  clear hr
  go_enter Try.func122, Try.ntmps122
  go_wp2_with fail
  have kx := Hd.mk (Ext.alloc w (.cells #[.string x.name, .string x.key, .int .i64 x.kind, .int .u64 x.num, .string x.text, .slice Kx x.kids.length cx] 54))
  have kX := Hd.mk (Blk.new w #[.string x.name, .string x.key, .int .i64 x.kind, .int .u64 x.num, .string x.text, .slice Kx x.kids.length cx] 54)
  generalize w.heap.size = pX at *
  generalize w.alloc _ = W at *
  go_loopg [9, 10] (l.length + 1) (fun q s9 s10 wr => ∃ (i j : Nat), i ≤ j ∧ j ≤ l.length ∧ Hd (q = j - i + 1) ∧ s9 = .int .i64 i ∧ s10 = .int .i64 j ∧ Hd (∀ (p : Nat) y, p < i → l[p]? = some y → lessT y x = true) ∧ Hd (∀ (p : Nat) y, j ≤ p → l[p]? = some y → lessT y x = false) ∧ Hd (Ext W wr))
  case atStart => exact ⟨0, l.length, by omega, by omega, ⟨by omega⟩, rfl, rfl, ⟨fun p y hp => absurd hp (by omega)⟩, ⟨fun p y hp hy => by have := (List.getElem?_eq_some_iff.1 hy).1; omega⟩, ⟨Ext.refl _⟩⟩
  case round =>
  obtain ⟨i, j, hij, hj, hq, rfl, rfl, hlo, hhi, hxr⟩ := hrel
  have qX := Hd.mk (kX.out.ext hxr.out)
  by_cases hlt : i < j
  · obtain ⟨h, hh⟩ : ∃ h, h = (i + j) / 2 := ⟨_, rfl⟩
    have hh1 : i ≤ h := by omega
    have hh2 : h < j := by omega
    have hh3 : h < l.length := by omega
    replace hh := Hd.mk hh
    have e1 : IntKind.i64.wrap ((i : Int) + (j : Int)) = ((i + j : Nat) : Int) := by rw [IntKind.wrap_i64]; omega
    have hx1 := List.getElem?_eq_getElem hh3
    generalize l[h] = y at hx1
    obtain ⟨b1, o1, ck, rfl, _, hrk, hck⟩ := kr.out.kid h y hx1
    obtain ⟨K3, c3, rfl, _⟩ := hrk.row
    have kcy := Hd.mk (fun (q : Nat) u hq => Ext.cell (kx.out.trans hxr.out) (hck q u hq))
    have hcmp := Hd.mk (fun W => tree_compare y x K3 Kx y.kids.length c3 x.kids.length cx W)
    have hng := Hd.mk (cmpT_neg y x)
    simp only [cT] at kcy hcmp
    have hx1 := Hd.mk hx1
    clear hck hrk
    go_wp2_with fail
    have e2 : ((i : Int) + (j : Int)) / 2 = (h : Int) := by have := hh.out; omega
    rw [e2]
    clear e2 e1
    refine Flow.wp_region_flow_l (fun qq => match qq with
      | 24 => SP.eq (.func (.func 116) #[] #[])
      | 25 => SP.eq (.slice (some ⟨b1, o1, none⟩) l.length c)
      | 26 => SP.eq (.int .i64 (h : Nat))
      | 27 => SP.eq (.pointer (some ⟨b1, o1 + h * 6, none⟩))
      | 28 => SP.eq (.agg #[.string y.name, .string y.key, .int .i64 y.kind, .int .u64 y.num, .string y.text, .slice K3 y.kids.length c3])
      | 29 => SP.eq (.agg #[.string x.name, .string x.key, .int .i64 x.kind, .int .u64 x.num, .string x.text, .slice Kx x.kids.length cx])
      | 30 => SP.eq (.int .i64 (cmpT y x))
      | 31 => SP.eq (.bool (lessT y x))
      | _ => SP.any) 8 (by kernel_rfl) 49 rfl (by kernel_rfl) ?_ ?_
    · skip
      refine ⟨?_, ?_, ?_, ?_, ?_, ?_, ?_, ?_, trivial⟩
      · intro act W2 hk
        refine Flow.does_intro rfl (fun Kq hK => ?_)
        have e2 : act.tmps[2]?.getD undef = .func (.func 116) #[] #[] := hk.o 2 (by kernel_rfl)
        clear hk
        go_simp
        exact hK _ _ (Ext.refl _) (fun d hd => by cases hd; rfl)
      · intro act W2 hk
        refine Flow.does_intro rfl (fun Kq hK => ?_)
        have e0 : act.tmps[0]?.getD undef = .slice (some ⟨b1, o1, none⟩) l.length c := hk.o 0 (by kernel_rfl)
        clear hk
        go_simp
        exact hK _ _ (Ext.refl _) (fun d hd => by cases hd; rfl)
      · intro act W2 hk
        refine Flow.does_intro rfl (fun Kq hK => ?_)
        have e11 : act.tmps[11]?.getD undef = .int .i64 (h : Nat) := hk.o 11 (by kernel_rfl)
        clear hk
        go_simp
        exact hK _ _ (Ext.refl _) (fun d hd => by cases hd; rfl)
      · intro act W2 hk
        refine Flow.does_intro rfl (fun Kq hK => ?_)
        have e25 : act.tmps[25]?.getD undef = .slice (some ⟨b1, o1, none⟩) l.length c := hk.v 25 (by kernel_rfl)
        have e26 : act.tmps[26]?.getD undef = .int .i64 (h : Nat) := hk.v 26 (by kernel_rfl)
        clear hk
        go_simp
        exact hK _ _ (Ext.refl _) (fun d hd => by cases hd; rfl)
      · intro act W2 hk
        refine Flow.does_intro rfl (fun Kq hK => ?_)
        have e27 : act.tmps[27]?.getD undef = .pointer (some ⟨b1, o1 + h * 6, none⟩) := hk.v 27 (by kernel_rfl)
        have g0 := Ext.cell ((Ext.drew wr).trans hk.ext) ((kcy.out) 0 _ rfl)
        rw [Nat.add_zero] at g0
        have g1 := Ext.cell ((Ext.drew wr).trans hk.ext) ((kcy.out) 1 _ rfl)
        have g2 := Ext.cell ((Ext.drew wr).trans hk.ext) ((kcy.out) 2 _ rfl)
        have g3 := Ext.cell ((Ext.drew wr).trans hk.ext) ((kcy.out) 3 _ rfl)
        have g4 := Ext.cell ((Ext.drew wr).trans hk.ext) ((kcy.out) 4 _ rfl)
        have g5 := Ext.cell ((Ext.drew wr).trans hk.ext) ((kcy.out) 5 _ rfl)
        clear hk
        go_simp
        exact hK _ _ (Ext.refl _) (fun d hd => by cases hd; rfl)
      · intro act W2 hk
        refine Flow.does_intro rfl (fun Kq hK => ?_)
        have e4 : act.tmps[4]?.getD undef = .pointer (some ⟨pX, 0, none⟩) := hk.o 4 (by kernel_rfl)
        have g := ((qX.out).ext ((Ext.drew wr).trans hk.ext)).cell
        clear hk
        go_simp
        exact hK _ _ (Ext.refl _) (fun d hd => by cases hd; rfl)
      · intro act W2 hk
        refine Flow.does_intro rfl (fun Kq hK => ?_)
        have e24 : act.tmps[24]?.getD undef = .func (.func 116) #[] #[] := hk.v 24 (by kernel_rfl)
        have e28 : act.tmps[28]?.getD undef = .agg #[.string y.name, .string y.key, .int .i64 y.kind, .int .u64 y.num, .string y.text, .slice K3 y.kids.length c3] := hk.v 28 (by kernel_rfl)
        have e29 : act.tmps[29]?.getD undef = .agg #[.string x.name, .string x.key, .int .i64 x.kind, .int .u64 x.num, .string x.text, .slice Kx x.kids.length cx] := hk.v 29 (by kernel_rfl)
        clear hk
        go_simp
        refine Calls.mono (hcmp.out _) ?_
        rintro e W3 ⟨rfl, hx⟩
        exact hK _ _ hx (fun d hd => by cases hd; rfl)
      · intro act W2 hk
        refine Flow.does_intro rfl (fun Kq hK => ?_)
        have e30 : act.tmps[30]?.getD undef = .int .i64 (cmpT y x) := hk.v 30 (by kernel_rfl)
        clear hk
        go_simp
        exact hK _ _ (Ext.refl _) (fun d hd => by cases hd; exact congrArg Value.bool hng.out)
    · intro act W2 he
      have hxW2 := Hd.mk ((Ext.drew wr).trans he.ext)
      obtain ⟨us, hA, hF⟩ := he.out [24, 25, 26, 27, 28, 29, 30, 31] (by kernel_rfl)
      simp only [Flow.fillL, List.contains_cons, List.contains_nil, Nat.reduceBEq, Bool.or_false, Bool.false_or, Bool.or_true, Bool.true_or, ↓reduceIte, Nat.reduceAdd, Bool.false_eq_true] at hA
      subst hA
      have f31 : us 31 = .bool (lessT y x) := hF 31 (by simp)
      clear hF he
      rw [f31]
      clear f31
      refine (show wpList _ _ _ [] _ _ from ?_)
      have hx2 := Hd.mk (hxr.out.trans hxW2.out)
      clear hxr hxW2 hcmp hng
      cases hb : lessT y x with
      | true =>
        go_wp2_with fail
        go_roundg (j - (h + 1) + 1)
        case measure => have := hq.out; omega
        case rel => exact ⟨h + 1, j, by omega, by omega, ⟨rfl⟩, by go_num, rfl, ⟨fun p z hp hz => by
            by_cases hph : p = h
            · subst hph; rw [hx1.out] at hz; cases hz; exact hb
            · exact lessT_trans (srt_get hs.out (by omega) hz hx1.out) hb⟩, hhi, hx2⟩
      | false =>
        go_wp2_with fail
        go_roundg (h - i + 1)
        case measure => have := hq.out; omega
        case rel => exact ⟨i, h, by omega, by omega, ⟨rfl⟩, rfl, rfl, hlo, ⟨fun p z hp hz => by
            by_cases hph : p = h
            · subst hph; rw [hx1.out] at hz; cases hz; exact hb
            · cases hc : lessT z x with
              | false => rfl
              | true => have := lessT_trans (srt_get hs.out (by omega) hx1.out hz) hc; rw [hb] at this; cases this⟩, hx2⟩
  · obtain rfl : i = j := by omega
    have hst := Hd.mk (show Stands l x i from ⟨hj, hlo.out, hhi.out⟩)
    clear hlo hhi hs
    by_cases hil : i < l.length
    · have hx1 := List.getElem?_eq_getElem hil
      generalize l[i] = y at hx1
      obtain ⟨b1, o1, ck, rfl, _, hrk, hck⟩ := kr.out.kid i y hx1
      obtain ⟨K3, c3, rfl, _⟩ := hrk.row
      have kcy := Hd.mk (fun (q : Nat) u hq => Ext.cell (kx.out.trans hxr.out) (hck q u hq))
      have hcmp := Hd.mk (fun W => tree_compare y x K3 Kx y.kids.length c3 x.kids.length cx W)
      simp only [cT] at kcy hcmp
      clear hck hrk hx1
      go_wp2_with fail
      refine Flow.wp_region_flow_l (fun qq => match qq with
        | 35 => SP.eq (.int .i64 (i : Nat))
        | 36 => SP.eq (.int .i64 (i : Nat))
        | 37 => SP.eq (.int .i64 (l.length : Nat))
        | 38 => SP.eq (.bool true)
        | 39 => SP.eq (.bool true)
        | 40 => SP.eq (.func (.func 116) #[] #[])
        | 41 => SP.eq (.slice (some ⟨b1, o1, none⟩) l.length c)
        | 42 => SP.eq (.int .i64 (i : Nat))
        | 43 => SP.eq (.pointer (some ⟨b1, o1 + i * 6, none⟩))
        | 44 => SP.eq (.agg #[.string y.name, .string y.key, .int .i64 y.kind, .int .u64 y.num, .string y.text, .slice K3 y.kids.length c3])
        | 45 => SP.eq (.agg #[.string x.name, .string x.key, .int .i64 x.kind, .int .u64 x.num, .string x.text, .slice Kx x.kids.length cx])
        | 46 => SP.eq (.int .i64 (cmpT y x))
        | 47 => SP.eq (.bool (cmpT y x == 0))
        | 48 => SP.eq (.bool (cmpT y x == 0))
        | 6 => SP.eq (.int .i64 (i : Nat))
        | 7 => SP.eq (.bool (cmpT y x == 0))
        | _ => SP.any) 16 (by kernel_rfl) 49 rfl (by kernel_rfl) ?_ ?_
      · skip
        refine ⟨?_, ?_, ?_, ?_, ?_, ?_, ?_, ?_, ?_, ?_, ?_, ?_, ?_, ?_, ?_, ?_, trivial⟩
        · intro act W2 hk
          refine Flow.does_intro rfl (fun Kq hK => ?_)
          have e9 : act.tmps[9]?.getD undef = .int .i64 (i : Nat) := hk.o 9 (by kernel_rfl)
          clear hk
          go_simp
          exact hK _ _ (Ext.refl _) (fun d hd => by cases hd; rfl)
        · intro act W2 hk
          refine Flow.does_intro rfl (fun Kq hK => ?_)
          have e9 : act.tmps[9]?.getD undef = .int .i64 (i : Nat) := hk.o 9 (by kernel_rfl)
          clear hk
          go_simp
          exact hK _ _ (Ext.refl _) (fun d hd => by cases hd; rfl)
        · intro act W2 hk
          refine Flow.does_intro rfl (fun Kq hK => ?_)
          have e8 : act.tmps[8]?.getD undef = .int .i64 (l.length : Nat) := hk.o 8 (by kernel_rfl)
          clear hk
          go_simp
          exact hK _ _ (Ext.refl _) (fun d hd => by cases hd; rfl)
        · intro act W2 hk
          refine Flow.does_intro rfl (fun Kq hK => ?_)
          have e36 : act.tmps[36]?.getD undef = .int .i64 (i : Nat) := hk.v 36 (by kernel_rfl)
          have e37 : act.tmps[37]?.getD undef = .int .i64 (l.length : Nat) := hk.v 37 (by kernel_rfl)
          clear hk
          go_simp
          exact hK _ _ (Ext.refl _) (fun d hd => by cases hd; rfl)
        · intro act W2 hk
          refine Flow.does_intro rfl (fun Kq hK => ?_)
          have e38 : act.tmps[38]?.getD undef = .bool true := hk.v 38 (by kernel_rfl)
          clear hk
          go_simp
          exact hK _ _ (Ext.refl _) (fun d hd => by cases hd; rfl)
        · intro act W2 hk
          have eg : act.tmps[39]?.getD undef = .bool true := hk.v 39 (by kernel_rfl)
          refine Flow.does_intro (wanted_yes rfl rfl eg) (fun Kq hK => ?_)
          clear eg
          have e2 : act.tmps[2]?.getD undef = .func (.func 116) #[] #[] := hk.o 2 (by kernel_rfl)
          clear hk
          go_simp
          exact hK _ _ (Ext.refl _) (fun d hd => by cases hd; rfl)
        · intro act W2 hk
          have eg : act.tmps[39]?.getD undef = .bool true := hk.v 39 (by kernel_rfl)
          refine Flow.does_intro (wanted_yes rfl rfl eg) (fun Kq hK => ?_)
          clear eg
          have e0 : act.tmps[0]?.getD undef = .slice (some ⟨b1, o1, none⟩) l.length c := hk.o 0 (by kernel_rfl)
          clear hk
          go_simp
          exact hK _ _ (Ext.refl _) (fun d hd => by cases hd; rfl)
        · intro act W2 hk
          have eg : act.tmps[39]?.getD undef = .bool true := hk.v 39 (by kernel_rfl)
          refine Flow.does_intro (wanted_yes rfl rfl eg) (fun Kq hK => ?_)
          clear eg
          have e9 : act.tmps[9]?.getD undef = .int .i64 (i : Nat) := hk.o 9 (by kernel_rfl)
          clear hk
          go_simp
          exact hK _ _ (Ext.refl _) (fun d hd => by cases hd; rfl)
        · intro act W2 hk
          have eg : act.tmps[39]?.getD undef = .bool true := hk.v 39 (by kernel_rfl)
          refine Flow.does_intro (wanted_yes rfl rfl eg) (fun Kq hK => ?_)
          clear eg
          have e41 : act.tmps[41]?.getD undef = .slice (some ⟨b1, o1, none⟩) l.length c := hk.v 41 (by kernel_rfl)
          have e42 : act.tmps[42]?.getD undef = .int .i64 (i : Nat) := hk.v 42 (by kernel_rfl)
          clear hk
          go_simp
          exact hK _ _ (Ext.refl _) (fun d hd => by cases hd; rfl)
        · intro act W2 hk
          have eg : act.tmps[39]?.getD undef = .bool true := hk.v 39 (by kernel_rfl)
          refine Flow.does_intro (wanted_yes rfl rfl eg) (fun Kq hK => ?_)
          clear eg
          have e43 : act.tmps[43]?.getD undef = .pointer (some ⟨b1, o1 + i * 6, none⟩) := hk.v 43 (by kernel_rfl)
          have g0 := Ext.cell ((Ext.drew wr).trans hk.ext) ((kcy.out) 0 _ rfl)
          rw [Nat.add_zero] at g0
          have g1 := Ext.cell ((Ext.drew wr).trans hk.ext) ((kcy.out) 1 _ rfl)
          have g2 := Ext.cell ((Ext.drew wr).trans hk.ext) ((kcy.out) 2 _ rfl)
          have g3 := Ext.cell ((Ext.drew wr).trans hk.ext) ((kcy.out) 3 _ rfl)
          have g4 := Ext.cell ((Ext.drew wr).trans hk.ext) ((kcy.out) 4 _ rfl)
          have g5 := Ext.cell ((Ext.drew wr).trans hk.ext) ((kcy.out) 5 _ rfl)
          clear hk
          go_simp
          exact hK _ _ (Ext.refl _) (fun d hd => by cases hd; rfl)
        · intro act W2 hk
          have eg : act.tmps[39]?.getD undef = .bool true := hk.v 39 (by kernel_rfl)
          refine Flow.does_intro (wanted_yes rfl rfl eg) (fun Kq hK => ?_)
          clear eg
          have e4 : act.tmps[4]?.getD undef = .pointer (some ⟨pX, 0, none⟩) := hk.o 4 (by kernel_rfl)
          have g := ((qX.out).ext ((Ext.drew wr).trans hk.ext)).cell
          clear hk
          go_simp
          exact hK _ _ (Ext.refl _) (fun d hd => by cases hd; rfl)
        · intro act W2 hk
          have eg : act.tmps[39]?.getD undef = .bool true := hk.v 39 (by kernel_rfl)
          refine Flow.does_intro (wanted_yes rfl rfl eg) (fun Kq hK => ?_)
          clear eg
          have e40 : act.tmps[40]?.getD undef = .func (.func 116) #[] #[] := hk.v 40 (by kernel_rfl)
          have e44 : act.tmps[44]?.getD undef = .agg #[.string y.name, .string y.key, .int .i64 y.kind, .int .u64 y.num, .string y.text, .slice K3 y.kids.length c3] := hk.v 44 (by kernel_rfl)
          have e45 : act.tmps[45]?.getD undef = .agg #[.string x.name, .string x.key, .int .i64 x.kind, .int .u64 x.num, .string x.text, .slice Kx x.kids.length cx] := hk.v 45 (by kernel_rfl)
          clear hk
          go_simp
          refine Calls.mono (hcmp.out _) ?_
          rintro e W3 ⟨rfl, hx⟩
          exact hK _ _ hx (fun d hd => by cases hd; rfl)
        · intro act W2 hk
          have eg : act.tmps[39]?.getD undef = .bool true := hk.v 39 (by kernel_rfl)
          refine Flow.does_intro (wanted_yes rfl rfl eg) (fun Kq hK => ?_)
          clear eg
          have e46 : act.tmps[46]?.getD undef = .int .i64 (cmpT y x) := hk.v 46 (by kernel_rfl)
          clear hk
          go_simp
          exact hK _ _ (Ext.refl _) (fun d hd => by cases hd; rfl)
        · intro act W2 hk
          refine Flow.does_intro rfl (fun Kq hK => ?_)
          have e39 : act.tmps[39]?.getD undef = .bool true := hk.v 39 (by kernel_rfl)
          have e47 : act.tmps[47]?.getD undef = .bool (cmpT y x == 0) := hk.v 47 (by kernel_rfl)
          clear hk
          go_simp
          exact hK _ _ (Ext.refl _) (fun d hd => by cases hd; rfl)
        · intro act W2 hk
          refine Flow.does_intro rfl (fun Kq hK => ?_)
          have e35 : act.tmps[35]?.getD undef = .int .i64 (i : Nat) := hk.v 35 (by kernel_rfl)
          clear hk
          go_simp
          exact hK _ _ (Ext.refl _) (fun d hd => by cases hd; rfl)
        · intro act W2 hk
          refine Flow.does_intro rfl (fun Kq hK => ?_)
          have e48 : act.tmps[48]?.getD undef = .bool (cmpT y x == 0) := hk.v 48 (by kernel_rfl)
          clear hk
          go_simp
          exact hK _ _ (Ext.refl _) (fun d hd => by cases hd; rfl)
      · intro act W2 he
        have hxW2 := Hd.mk ((Ext.drew wr).trans he.ext)
        obtain ⟨us, hA, hF⟩ := he.out [35, 36, 37, 38, 39, 40, 41, 42, 43, 44, 45, 46, 47, 48, 6, 7] (by kernel_rfl)
        simp only [Flow.fillL, List.contains_cons, List.contains_nil, Nat.reduceBEq, Bool.or_false, Bool.false_or, Bool.or_true, Bool.true_or, ↓reduceIte, Nat.reduceAdd, Bool.false_eq_true] at hA
        subst hA
        have f6 : us 6 = .int .i64 (i : Nat) := hF 6 (by simp)
        have f7 : us 7 = .bool (cmpT y x == 0) := hF 7 (by simp)
        clear hF he
        rw [f6]
        clear f6
        rw [f7]
        clear f7
        refine (show wpList _ _ _ [] _ _ from ?_)
        go_wp2_with fail
        go_ret2
        exact ⟨_, _, rfl, hst.out, (kx.out.trans hxr.out).trans hxW2.out⟩
    · obtain rfl : i = l.length := by omega
      go_wp2_with fail
      refine Flow.wp_region_flow_l (fun qq => match qq with
        | 35 => SP.eq (.int .i64 (l.length : Nat))
        | 36 => SP.eq (.int .i64 (l.length : Nat))
        | 37 => SP.eq (.int .i64 (l.length : Nat))
        | 38 => SP.eq (.bool false)
        | 39 => SP.eq (.bool false)
        | 40 => SP.eq (undef)
        | 41 => SP.eq (undef)
        | 42 => SP.eq (undef)
        | 43 => SP.eq (undef)
        | 44 => SP.eq (undef)
        | 45 => SP.eq (undef)
        | 46 => SP.eq (undef)
        | 47 => SP.eq (undef)
        | 48 => SP.eq (.bool false)
        | 6 => SP.eq (.int .i64 (l.length : Nat))
        | 7 => SP.eq (.bool false)
        | _ => SP.any) 16 (by kernel_rfl) 49 rfl (by kernel_rfl) ?_ ?_
      · skip
        refine ⟨?_, ?_, ?_, ?_, ?_, ?_, ?_, ?_, ?_, ?_, ?_, ?_, ?_, ?_, ?_, ?_, trivial⟩
        · intro act W2 hk
          refine Flow.does_intro rfl (fun Kq hK => ?_)
          have e9 : act.tmps[9]?.getD undef = .int .i64 (l.length : Nat) := hk.o 9 (by kernel_rfl)
          clear hk
          go_simp
          exact hK _ _ (Ext.refl _) (fun d hd => by cases hd; rfl)
        · intro act W2 hk
          refine Flow.does_intro rfl (fun Kq hK => ?_)
          have e9 : act.tmps[9]?.getD undef = .int .i64 (l.length : Nat) := hk.o 9 (by kernel_rfl)
          clear hk
          go_simp
          exact hK _ _ (Ext.refl _) (fun d hd => by cases hd; rfl)
        · intro act W2 hk
          refine Flow.does_intro rfl (fun Kq hK => ?_)
          have e8 : act.tmps[8]?.getD undef = .int .i64 (l.length : Nat) := hk.o 8 (by kernel_rfl)
          clear hk
          go_simp
          exact hK _ _ (Ext.refl _) (fun d hd => by cases hd; rfl)
        · intro act W2 hk
          refine Flow.does_intro rfl (fun Kq hK => ?_)
          have e36 : act.tmps[36]?.getD undef = .int .i64 (l.length : Nat) := hk.v 36 (by kernel_rfl)
          have e37 : act.tmps[37]?.getD undef = .int .i64 (l.length : Nat) := hk.v 37 (by kernel_rfl)
          clear hk
          go_simp
          exact hK _ _ (Ext.refl _) (fun d hd => by cases hd; rfl)
        · intro act W2 hk
          refine Flow.does_intro rfl (fun Kq hK => ?_)
          have e38 : act.tmps[38]?.getD undef = .bool false := hk.v 38 (by kernel_rfl)
          clear hk
          go_simp
          exact hK _ _ (Ext.refl _) (fun d hd => by cases hd; rfl)
        · intro act W2 hk
          have eg : act.tmps[39]?.getD undef = .bool false := hk.v 39 (by kernel_rfl)
          exact Flow.does_skip (wanted_no rfl rfl eg) (fun d hd => by cases hd; rfl)
        · intro act W2 hk
          have eg : act.tmps[39]?.getD undef = .bool false := hk.v 39 (by kernel_rfl)
          exact Flow.does_skip (wanted_no rfl rfl eg) (fun d hd => by cases hd; rfl)
        · intro act W2 hk
          have eg : act.tmps[39]?.getD undef = .bool false := hk.v 39 (by kernel_rfl)
          exact Flow.does_skip (wanted_no rfl rfl eg) (fun d hd => by cases hd; rfl)
        · intro act W2 hk
          have eg : act.tmps[39]?.getD undef = .bool false := hk.v 39 (by kernel_rfl)
          exact Flow.does_skip (wanted_no rfl rfl eg) (fun d hd => by cases hd; rfl)
        · intro act W2 hk
          have eg : act.tmps[39]?.getD undef = .bool false := hk.v 39 (by kernel_rfl)
          exact Flow.does_skip (wanted_no rfl rfl eg) (fun d hd => by cases hd; rfl)
        · intro act W2 hk
          have eg : act.tmps[39]?.getD undef = .bool false := hk.v 39 (by kernel_rfl)
          exact Flow.does_skip (wanted_no rfl rfl eg) (fun d hd => by cases hd; rfl)
        · intro act W2 hk
          have eg : act.tmps[39]?.getD undef = .bool false := hk.v 39 (by kernel_rfl)
          exact Flow.does_skip (wanted_no rfl rfl eg) (fun d hd => by cases hd; rfl)
        · intro act W2 hk
          have eg : act.tmps[39]?.getD undef = .bool false := hk.v 39 (by kernel_rfl)
          exact Flow.does_skip (wanted_no rfl rfl eg) (fun d hd => by cases hd; rfl)
        · intro act W2 hk
          refine Flow.does_intro rfl (fun Kq hK => ?_)
          have e39 : act.tmps[39]?.getD undef = .bool false := hk.v 39 (by kernel_rfl)
          clear hk
          go_simp
          exact hK _ _ (Ext.refl _) (fun d hd => by cases hd; rfl)
        · intro act W2 hk
          refine Flow.does_intro rfl (fun Kq hK => ?_)
          have e35 : act.tmps[35]?.getD undef = .int .i64 (l.length : Nat) := hk.v 35 (by kernel_rfl)
          clear hk
          go_simp
          exact hK _ _ (Ext.refl _) (fun d hd => by cases hd; rfl)
        · intro act W2 hk
          refine Flow.does_intro rfl (fun Kq hK => ?_)
          have e48 : act.tmps[48]?.getD undef = .bool false := hk.v 48 (by kernel_rfl)
          clear hk
          go_simp
          exact hK _ _ (Ext.refl _) (fun d hd => by cases hd; rfl)
      · intro act W2 he
        have hxW2 := Hd.mk ((Ext.drew wr).trans he.ext)
        obtain ⟨us, hA, hF⟩ := he.out [35, 36, 37, 38, 39, 40, 41, 42, 43, 44, 45, 46, 47, 48, 6, 7] (by kernel_rfl)
        simp only [Flow.fillL, List.contains_cons, List.contains_nil, Nat.reduceBEq, Bool.or_false, Bool.false_or, Bool.or_true, Bool.true_or, ↓reduceIte, Nat.reduceAdd, Bool.false_eq_true] at hA
        subst hA
        have f6 : us 6 = .int .i64 (l.length : Nat) := hF 6 (by simp)
        have f7 : us 7 = .bool false := hF 7 (by simp)
        clear hF he
        rw [f6]
        clear f6
        rw [f7]
        clear f7
        refine (show wpList _ _ _ [] _ _ from ?_)
        go_wp2_with fail
        go_ret2
        exact ⟨_, _, rfl, hst.out, (kx.out.trans hxr.out).trans hxW2.out⟩
end Go.Proofs.Ytgkgedjmnbjalaa
set_option linter.unusedSimpArgs false
namespace Go.Proofs.Ytgkgedjmnbjalaa
open Go.RowKit Go.Sort
set_option maxRecDepth 100000 in
set_option maxHeartbeats 2000000 in
theorem find_one (x : T) (s : Step) (K : Option Addr) (c p : Nat) (w : World) (hp : Blk w p [.string s.1, .string s.2] 65) :
    Calls Try.prog 150 #[.agg #[.string x.name, .string x.key, .int .i64 x.kind, .int .u64 x.num, .string x.text, .slice K x.kids.length c], .pointer (some ⟨p, 0, none⟩)] w fun e w' => e = .returned (.bool (decide (stepT x = s))) ∧ Ext w w' := by
  obtain ⟨s1, s2⟩ := s
  have kP := Hd.mk hp
  have hs1 := Hd.mk (fun w => tree_step x K x.kids.length c w)
  simp only [cT] at hs1
  have sN := str_eq x.name s1
  have sK := str_eq x.key s2
  generalize hr : decide (stepT x = (s1, s2)) = r
  replace hr := Hd.mk hr
  clear hp
  go_enter Try.func150, Try.ntmps150
  go_wp2_with fail
  have kx := Hd.mk (Ext.alloc w (.cells #[.string x.name, .string x.key, .int .i64 x.kind, .int .u64 x.num, .string x.text, .slice K x.kids.length c] 54))
  have kA := Hd.mk (Blk.new w #[.string x.name, .string x.key, .int .i64 x.kind, .int .u64 x.num, .string x.text, .slice K x.kids.length c] 54)
  replace kP := Hd.mk (kP.out.ext kx.out)
  generalize w.heap.size = pA at *
  generalize w.alloc _ = W at *
  by_cases h1 : x.name = s1 ∧ x.key = s2
  · obtain ⟨rfl, rfl⟩ := h1
    have hr2 : r = true := by rw [← hr.out]; simp [stepT]
    subst hr2
    clear hr
    refine Flow.wp_region_flow_l (fun qq => match qq with
      | 4 => SP.eq (.agg #[.string x.name, .string x.key, .int .i64 x.kind, .int .u64 x.num, .string x.text, .slice K x.kids.length c])
      | 5 => SP.eq (.agg #[.string x.name, .string x.key])
      | 6 => SP.eq (.agg #[.string x.name, .string x.key])
      | 7 => SP.eq (.bool true)
      | 3 => SP.eq (.bool true)
      | _ => SP.any) 5 (by kernel_rfl) 8 rfl (by kernel_rfl) ?_ ?_
    · skip
      refine ⟨?_, ?_, ?_, ?_, ?_, trivial⟩
      · intro act W2 hk
        refine Flow.does_intro rfl (fun Kq hK => ?_)
        have e2 : act.tmps[2]?.getD undef = .pointer (some ⟨pA, 0, none⟩) := hk.o 2 (by kernel_rfl)
        have g := ((kA.out).ext ((Ext.drew W).trans hk.ext)).cell
        clear hk
        go_simp
        exact hK _ _ (Ext.refl _) (fun d hd => by cases hd; rfl)
      · intro act W2 hk
        refine Flow.does_intro rfl (fun Kq hK => ?_)
        have e4 : act.tmps[4]?.getD undef = .agg #[.string x.name, .string x.key, .int .i64 x.kind, .int .u64 x.num, .string x.text, .slice K x.kids.length c] := hk.v 4 (by kernel_rfl)
        clear hk
        go_simp
        refine Calls.mono (hs1.out _) ?_
        rintro e W3 ⟨rfl, hx⟩
        exact hK _ _ hx (fun d hd => by cases hd; rfl)
      · intro act W2 hk
        refine Flow.does_intro rfl (fun Kq hK => ?_)
        have e1 : act.tmps[1]?.getD undef = .pointer (some ⟨p, 0, none⟩) := hk.o 1 (by kernel_rfl)
        have g := ((kP.out).ext ((Ext.drew W).trans hk.ext)).cell
        clear hk
        go_simp
        exact hK _ _ (Ext.refl _) (fun d hd => by cases hd; rfl)
      · intro act W2 hk
        refine Flow.does_intro rfl (fun Kq hK => ?_)
        have e5 : act.tmps[5]?.getD undef = .agg #[.string x.name, .string x.key] := hk.v 5 (by kernel_rfl)
        have e6 : act.tmps[6]?.getD undef = .agg #[.string x.name, .string x.key] := hk.v 6 (by kernel_rfl)
        clear hk
        go_simp
        exact hK _ _ (Ext.refl _) (fun d hd => by cases hd; rfl)
      · intro act W2 hk
        refine Flow.does_intro rfl (fun Kq hK => ?_)
        have e7 : act.tmps[7]?.getD undef = .bool true := hk.v 7 (by kernel_rfl)
        clear hk
        go_simp
        exact hK _ _ (Ext.refl _) (fun d hd => by cases hd; rfl)
    · intro act W2 he
      have hxW2 := Hd.mk ((Ext.drew W).trans he.ext)
      obtain ⟨us, hA, hF⟩ := he.out [4, 5, 6, 7, 3] (by kernel_rfl)
      simp only [Flow.fillL, List.contains_cons, List.contains_nil, Nat.reduceBEq, Bool.or_false, Bool.false_or, Bool.or_true, Bool.true_or, ↓reduceIte, Nat.reduceAdd, Bool.false_eq_true] at hA
      subst hA
      have f3 : us 3 = .bool true := hF 3 (by simp)
      clear hF he
      rw [f3]
      clear f3
      refine (show wpList _ _ _ [] _ _ from ?_)
      go_wp2_with fail
      go_ret
      exact ⟨rfl, kx.out.trans hxW2.out⟩
  · have hr2 : r = false := by rw [← hr.out]; simp only [stepT, Prod.mk.injEq, decide_eq_false_iff_not]; exact h1
    subst hr2
    have hv := Hd.mk (not2 h1)
    clear hr sN sK h1
    refine Flow.wp_region_flow_l (fun qq => match qq with
      | 4 => SP.eq (.agg #[.string x.name, .string x.key, .int .i64 x.kind, .int .u64 x.num, .string x.text, .slice K x.kids.length c])
      | 5 => SP.eq (.agg #[.string x.name, .string x.key])
      | 6 => SP.eq (.agg #[.string s1, .string s2])
      | 7 => SP.eq (.bool false)
      | 3 => SP.eq (.bool false)
      | _ => SP.any) 5 (by kernel_rfl) 8 rfl (by kernel_rfl) ?_ ?_
    · skip
      refine ⟨?_, ?_, ?_, ?_, ?_, trivial⟩
      · intro act W2 hk
        refine Flow.does_intro rfl (fun Kq hK => ?_)
        have e2 : act.tmps[2]?.getD undef = .pointer (some ⟨pA, 0, none⟩) := hk.o 2 (by kernel_rfl)
        have g := ((kA.out).ext ((Ext.drew W).trans hk.ext)).cell
        clear hk
        go_simp
        exact hK _ _ (Ext.refl _) (fun d hd => by cases hd; rfl)
      · intro act W2 hk
        refine Flow.does_intro rfl (fun Kq hK => ?_)
        have e4 : act.tmps[4]?.getD undef = .agg #[.string x.name, .string x.key, .int .i64 x.kind, .int .u64 x.num, .string x.text, .slice K x.kids.length c] := hk.v 4 (by kernel_rfl)
        clear hk
        go_simp
        refine Calls.mono (hs1.out _) ?_
        rintro e W3 ⟨rfl, hx⟩
        exact hK _ _ hx (fun d hd => by cases hd; rfl)
      · intro act W2 hk
        refine Flow.does_intro rfl (fun Kq hK => ?_)
        have e1 : act.tmps[1]?.getD undef = .pointer (some ⟨p, 0, none⟩) := hk.o 1 (by kernel_rfl)
        have g := ((kP.out).ext ((Ext.drew W).trans hk.ext)).cell
        clear hk
        go_simp
        exact hK _ _ (Ext.refl _) (fun d hd => by cases hd; rfl)
      · intro act W2 hk
        refine Flow.does_intro rfl (fun Kq hK => ?_)
        have e5 : act.tmps[5]?.getD undef = .agg #[.string x.name, .string x.key] := hk.v 5 (by kernel_rfl)
        have e6 : act.tmps[6]?.getD undef = .agg #[.string s1, .string s2] := hk.v 6 (by kernel_rfl)
        clear hk
        skip
        rcases hv.out with q | ⟨q1, q⟩
        all_goals go_simp
        all_goals exact hK _ _ (Ext.refl _) (fun d hd => by cases hd; rfl)
      · intro act W2 hk
        refine Flow.does_intro rfl (fun Kq hK => ?_)
        have e7 : act.tmps[7]?.getD undef = .bool false := hk.v 7 (by kernel_rfl)
        clear hk
        go_simp
        exact hK _ _ (Ext.refl _) (fun d hd => by cases hd; rfl)
    · intro act W2 he
      have hxW2 := Hd.mk ((Ext.drew W).trans he.ext)
      obtain ⟨us, hA, hF⟩ := he.out [4, 5, 6, 7, 3] (by kernel_rfl)
      simp only [Flow.fillL, List.contains_cons, List.contains_nil, Nat.reduceBEq, Bool.or_false, Bool.false_or, Bool.or_true, Bool.true_or, ↓reduceIte, Nat.reduceAdd, Bool.false_eq_true] at hA
      subst hA
      have f3 : us 3 = .bool false := hF 3 (by simp)
      clear hF he
      rw [f3]
      clear f3
      refine (show wpList _ _ _ [] _ _ from ?_)
      go_wp2_with fail
      go_ret
      exact ⟨rfl, kx.out.trans hxW2.out⟩
theorem nodes_index (l : List T) (s : Step) (S : Nat → Prop) (w : World) (K : Option Addr) (c p : Nat) (hr : RRow S w K l c) (hp : Blk w p [.string s.1, .string s.2] 65) :
    Calls Try.prog 149 #[.slice K l.length c, .func (.func 150) #[] #[.pointer (some ⟨p, 0, none⟩)]] w fun e w' => e = .returned (.int .i64 (findT l s)) ∧ Ext w w' := by
  have kr := Hd.mk hr
  have hl := hr.len
  have kP := Hd.mk hp
  clear hp hr
  generalize hr : findT l s = r
  replace hr := Hd.mk (show r = findAt (l.drop 0) s 0 from hr.symm)
  go_enter Try.func149, Try.ntmps149
  go_wp2_with fail
  go_loopg [8] (l.length + 1) (fun q i wr => ∃ j : Nat, j ≤ l.length ∧ Hd (q = l.length + 1 - j) ∧ i = .int .i64 j ∧ Hd (r = findAt (l.drop j) s j) ∧ Hd (Ext w wr))
  case atStart => exact ⟨0, by omega, ⟨by omega⟩, rfl, hr, ⟨Ext.refl _⟩⟩
  case round =>
  obtain ⟨j, hj, hq, rfl, hI, hxr⟩ := hrel
  by_cases hlt : j < l.length
  · have hx1 := List.getElem?_eq_getElem hlt
    generalize l[j] = x at hx1
    obtain ⟨b1, o1, ck, rfl, _, hrk, hck⟩ := kr.out.kid j x hx1
    obtain ⟨K3, c3, rfl, _⟩ := hrk.row
    have hdrop := Hd.mk (hI.out.trans (findAt_drop hx1 s))
    obtain ⟨e0, e1, e2, e3, e4, e5⟩ := six hxr.out hck
    have hcall := Hd.mk (fun W' (h : Ext w W') => find_one x s K3 c3 p W' (kP.out.ext h))
    clear hck hrk hx1 hI
    go_wp2_with fail
    refine Calls.mono (hcall.out _ hxr.out) ?_
    rintro e w2 ⟨rfl, hx⟩
    have hxr2 := Hd.mk (hxr.out.trans hx)
    clear hcall e0 e1 e2 e3 e4 e5 hxr hx
    by_cases hs : stepT x = s
    · have hr0 := hdrop.out
      rw [if_pos hs] at hr0
      subst hr0
      rw [decide_eq_true hs]
      clear hdrop hs
      go_wp2_with fail
      go_ret
      exact ⟨rfl, hxr2.out⟩
    · have hr0 := Hd.mk (show r = findAt (l.drop (j + 1)) s (j + 1) by rw [hdrop.out, if_neg hs])
      rw [decide_eq_false hs]
      clear hdrop hs
      go_wp2_with fail
      go_roundg (l.length + 1 - (j + 1))
      case measure => have := hq.out; omega
      case rel => exact ⟨j + 1, by omega, ⟨rfl⟩, by go_num, hr0, hxr2⟩
  · have hjl : j = l.length := by omega
    have hr0 : r = -1 := by rw [hI.out, hjl, List.drop_length]; rfl
    subst hr0
    clear hI hjl
    go_wp2_with fail
    go_ret
    exact ⟨rfl, hxr.out⟩
set_option maxRecDepth 100000 in
set_option maxHeartbeats 2000000 in
theorem tree_find (t : T) (s : Step) (S : Nat → Prop) (w : World) (b o : Nat) (c : List Value) (h : RT S w t c) (hc : ∀ (q : Nat) v, c[q]? = some v → w.cell? ⟨b, o + q, none⟩ = some v) :
    Calls Try.prog 121 #[.pointer (some ⟨b, o, none⟩), .agg #[.string s.1, .string s.2]] w fun e w' => e = .returned (.int .i64 (findT t.kids s)) ∧ Ext w w' := by
  obtain ⟨K, kc, rfl, hrow⟩ := h.row
  obtain ⟨s1, s2⟩ := s
  obtain ⟨e0, e1, e2, e3, e4, e5⟩ := six (Ext.alloc w (.cells #[.string s1, .string s2] 65)) hc
  have lt1 := World.block_lt_of_cell? _ _ e0
  have kr := Hd.mk hrow
  clear hrow h hc
  go_enter Try.func121, Try.ntmps121
  go_wp2_with fail
  have kx := Hd.mk (Ext.alloc w (.cells #[.string s1, .string s2] 65))
  have kP := Hd.mk (Blk.new w #[.string s1, .string s2] 65)
  generalize w.heap.size = pP at *
  generalize w.alloc _ = W at *
  refine Calls.mono (nodes_index t.kids (s1, s2) S W K kc pP (kr.out.ext kx.out) kP.out) ?_
  rintro e w2 ⟨rfl, hx⟩
  have kx2 := Hd.mk (kx.out.trans hx)
  clear hx kx kP e0 e1 e2 e3 e4 e5
  go_wp2_with fail
  go_ret
  exact ⟨rfl, kx2.out⟩
def Pth (w : World) : Nat → Nat → T → List Step → Nat → Nat → Prop
  | b0, o0, _, [], b, o => b = b0 ∧ o = o0
  | b0, o0, t, s :: r, b, o => ∃ (i : Nat) (k : T) (g f n c : Nat), findT t.kids s = (i : Int) ∧ t.kids[i]? = some k ∧ w.cell? ⟨b0, o0 + 5, none⟩ = some (.slice (some ⟨g, f, none⟩) n c) ∧ Pth w g (f + i * 6) k r b o
theorem findT_kid (l : List T) (s : Step) : (findT l s = -1 ∧ kid l s = none) ∨ ∃ (i : Nat) (x : T), findT l s = (i : Int) ∧ l[i]? = some x ∧ kid l s = some x ∧ (∀ y, repL l s y = l.set i y) ∧ cutL l s = l.eraseIdx i := by
  rcases findT_spec l s with ⟨h1, h2⟩ | ⟨i, x, h1, h2, h3, h4⟩
  · exact .inl ⟨h1, kid_none.2 h2⟩
  · obtain ⟨hlt, hx⟩ := List.getElem?_eq_some_iff.1 h2
    have hl : l = l.take i ++ x :: l.drop (i + 1) := by rw [← hx, ← List.drop_eq_getElem_cons hlt, List.take_append_drop]
    have hp : ∀ p ∈ l.take i, stepT p ≠ s := fun p hp => by
      obtain ⟨k, hk⟩ := List.getElem?_of_mem hp
      have hki : k < i := by have := (List.getElem?_eq_some_iff.1 hk).1; simp at this; omega
      rw [List.getElem?_take, if_pos hki] at hk
      exact h4 k p hki hk
    refine .inr ⟨i, x, h1, h2, ?_, fun y => ?_, ?_⟩
    · rw [hl]; exact kid_at hp h3
    · conv => lhs; rw [hl]
      rw [rep_at hp h3, List.set_eq_take_append_cons_drop, if_pos hlt]
    · conv => lhs; rw [hl]
      rw [cut_at hp h3, List.eraseIdx_eq_take_drop_succ]
set_option maxRecDepth 100000 in
set_option maxHeartbeats 4000000 in
theorem tree_at (t : T) (way : List Step) (S S' : Nat → Prop) (w : World) (b o : Nat) (c : List Value) (A : Option Addr) (ac : Nat) (h : RT S w t c) (hc : ∀ (q : Nat) v, c[q]? = some v → w.cell? ⟨b, o + q, none⟩ = some v) (hw : WRow S' w A way ac) :
    Calls Try.prog 120 #[.pointer (some ⟨b, o, none⟩), .slice A way.length ac] w fun e w' => Ext w w' ∧
      ((getT t way = none ∧ e = .returned (.pointer none)) ∨ ∃ u bu ou, getT t way = some u ∧ e = .returned (.pointer (some ⟨bu, ou, none⟩)) ∧ Pth w b o t way bu ou) := by
  have kw := Hd.mk hw
  have hl := hw.len
  have h0 := Hd.mk (show ∃ (tj : T) (cj : List Value), RT S w tj cj ∧ (∀ (q : Nat) v, cj[q]? = some v → w.cell? ⟨b, o + q, none⟩ = some v) ∧ getT t way = getT tj (way.drop 0) ∧ ∀ bu ou, Pth w b o tj (way.drop 0) bu ou → Pth w b o t way bu ou from ⟨t, c, h, hc, rfl, fun _ _ h => h⟩)
  clear h hc hw
  go_enter Try.func120, Try.ntmps120
  go_wp2_with fail
  go_loopg [0, 10] (way.length + 1) (fun q p0 i wr => ∃ (j bj oj : Nat), j ≤ way.length ∧ Hd (q = way.length + 1 - j) ∧ p0 = .pointer (some ⟨bj, oj, none⟩) ∧ i = .int .i64 j ∧ Hd (Ext w wr) ∧
    Hd (∃ (tj : T) (cj : List Value), RT S w tj cj ∧ (∀ (q : Nat) v, cj[q]? = some v → w.cell? ⟨bj, oj + q, none⟩ = some v) ∧ getT t way = getT tj (way.drop j) ∧ ∀ bu ou, Pth w bj oj tj (way.drop j) bu ou → Pth w b o t way bu ou))
  case atStart => exact ⟨0, b, o, by omega, ⟨by omega⟩, rfl, rfl, ⟨Ext.refl _⟩, h0⟩
  case round =>
  obtain ⟨j, bj, oj, hj, hq, rfl, rfl, hxr, hI⟩ := hrel
  obtain ⟨tj, cj, hrt, hcj, hget, hpth⟩ := hI.out
  clear hI h0
  obtain ⟨K, kc, rfl, hrow⟩ := hrt.row
  by_cases hlt : j < way.length
  · have hs1 := List.getElem?_eq_getElem hlt
    have hdr := List.drop_eq_getElem_cons hlt
    generalize way[j] = s at hs1 hdr
    obtain ⟨b2, o2, rfl, _, hdk⟩ := WRow.at kw.out hs1
    obtain ⟨d0, d1⟩ := twoC hxr.out hdk
    obtain ⟨e0, e1, e2, e3, e4, e5⟩ := six hxr.out hcj
    have lt1 := World.block_lt_of_cell? wr _ e0
    rw [hdr] at hget hpth
    have hfind := Hd.mk (fun W (h : Ext w W) => tree_find tj s S W bj oj _ (hrt.ext h) (fun q v hv => Ext.cell h (hcj q v hv)))
    have h5 := Hd.mk (hcj 5 _ rfl)
    have hget := Hd.mk hget
    have hpth := Hd.mk hpth
    have hrow := Hd.mk hrow
    have hrt := Hd.mk hrt
    clear hcj hdk hs1 hdr
    go_wp2_with fail
    have kxB := Hd.mk (hxr.out.trans (Ext.alloc wr (.cells #[.string s.1, .string s.2] 65)))
    refine Calls.mono (hfind.out _ kxB.out) ?_
    rintro e w2 ⟨rfl, hx⟩
    have kx2 := Hd.mk (kxB.out.trans hx)
    have e5' := Hd.mk (Ext.cell kx2.out h5.out)
    have lt2 := Nat.lt_of_lt_of_le lt1 (Nat.le_trans (Ext.alloc wr (.cells #[.string s.1, .string s.2] 65)).size hx.size)
    clear hx e0 e1 e2 e3 e4 e5 d0 d1 hfind kxB hxr
    rcases findT_kid tj.kids s with ⟨hf, hk⟩ | ⟨i, k, hf, hi, hk, _⟩
    · rw [hf]
      have hnone : getT t way = none := by rw [hget.out, getT_cons, hk]; rfl
      clear hget hpth hf hk
      go_wp2_with fail
      go_ret
      exact ⟨kx2.out, .inl ⟨hnone, rfl⟩⟩
    · have hkl := (List.getElem?_eq_some_iff.1 hi).1
      obtain ⟨g, f, ck, rfl, _, hrk, hck⟩ := hrow.out.kid i k hi
      have hfi := Hd.mk hf
      rw [hf]
      have hnext := Hd.mk (show ∃ (tj : T) (cj : List Value), RT S w tj cj ∧ (∀ (q : Nat) v, cj[q]? = some v → w.cell? ⟨g, f + i * 6 + q, none⟩ = some v) ∧ getT t way = getT tj (way.drop (j + 1)) ∧ ∀ bu ou, Pth w g (f + i * 6) tj (way.drop (j + 1)) bu ou → Pth w b o t way bu ou from
        ⟨k, ck, hrk, hck, by rw [hget.out, getT_cons, hk]; rfl, fun bu ou hp => hpth.out bu ou ⟨i, k, g, f, _, _, hf, hi, h5.out, hp⟩⟩)
      have gB := e5'.out
      have hil : (i : Int) < (tj.kids.length : Int) := by omega
      clear hget hpth hf hk hrk hck hrow hrt hi
      go_wp2_with fail
      go_roundg (way.length + 1 - (j + 1))
      case measure => have := hq.out; omega
      case rel => exact ⟨j + 1, g, f + i * 6, by omega, ⟨rfl⟩, rfl, by go_num, kx2, hnext⟩
  · have hjl : j = way.length := by omega
    subst hjl
    rw [List.drop_length] at hget hpth
    have hget := Hd.mk hget
    have hpth := Hd.mk hpth
    clear hcj hrt
    go_wp2_with fail
    go_ret
    exact ⟨hxr.out, .inr ⟨tj, bj, oj, hget.out, rfl, hpth.out bj oj ⟨rfl, rfl⟩⟩⟩
end Go.Proofs.Ytgkgedjmnbjalaa

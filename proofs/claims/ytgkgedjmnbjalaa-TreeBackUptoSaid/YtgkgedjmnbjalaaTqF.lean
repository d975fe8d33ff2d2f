/- Texts that the law needs, joined.
   Conditions: none. -/
import Derived.Test.YtgkgedjmnbjalaaTqE
import Derived.Test.YtgkgedjmnbjalaaTqB
import Derived.Test.YtgkgedjmnbjalaaTqD
set_option linter.unusedSimpArgs false
set_option linter.unusedVariables false
namespace Go.Proofs.Ytgkgedjmnbjalaa
open Go.RowKit Go.Sort
theorem setR_last {n x m : T} {way : List Step} (h : setR n way x = (m, 0)) : way.getLast? = some (stepT x) := by
  unfold setR at h
  split at h
  · rename_i h1; exact h1
  · simp at h
theorem setR_step {n x m : T} {way : List Step} (h : setR n way x = (m, 0)) : stepT m = stepT n := by
  have hl := setR_last h
  unfold setR at h
  rw [if_pos hl] at h
  cases hg : getT n way.dropLast with
  | none => rw [hg] at h; simp at h
  | some p =>
    rw [hg] at h
    simp only at h
    by_cases hp : p.kind = 0
    · rw [if_neg (by simp [hp])] at h
      simp only [Prod.mk.injEq, and_true] at h
      rw [← h, setT_step]
    · rw [if_pos hp] at h
      simp at h
theorem cut_rep {l : List T} {s : Step} {k x : T} (hk : kid l s = some k) (hx : stepT x = s) : cutL (repL l s x) s = cutL l s := by
  obtain ⟨pre, suf, rfl, h2, h3⟩ := kid_some hk
  rw [rep_at h3 h2, cut_at h3 hx, cut_at h3 h2]
theorem cut_size {l : List T} {s : Step} {k : T} (hk : kid l s = some k) : sizeL (cutL l s) + k.size = sizeL l := by
  obtain ⟨pre, suf, rfl, h2, h3⟩ := kid_some hk
  rw [cut_at h3 h2, sizeL_append, sizeL_append, sizeL_cons]
  omega
theorem set_back : ∀ (way : List Step) (n x m : T), rightT n = true → rightT x = true → setR n way x = (m, 0) →
    getT m way = some x ∧ ∃ k, cutR m way = (k, 0) ∧ getT k way = none ∧ k.size + x.size = m.size ∧ (getT n way = none → k = n) ∧ ∀ old, getT n way = some old → setR k way old = (n, 0)
  | [], n, x, m, _, _, h => by simp [setR] at h
  | [s], n, x, m, hn, hx, h => by
    rw [setR_one] at h
    split at h
    · rename_i hs
      split at h
      · simp at h
      · rename_i hk0
        have h0 : n.kind = 0 := Classical.byContradiction hk0
        simp only [Prod.mk.injEq, and_true] at h
        subst h
        subst hs
        have hsrt := ((right_box h0).1 hn).2.2.2
        obtain ⟨f1, f2, f3⟩ := setL_facts (x := x) hsrt
        refine ⟨by rw [getT_one]; exact f2, n.wk (cutL (setL n.kids x) (stepT x)), ?_, ?_, ?_, fun hg => ?_, fun old hg => ?_⟩
        · rw [cutR_one]
          show (match kid (setL n.kids x) (stepT x) with | none => (zeroT, (30 : Int)) | some _ => ((n.wk (setL n.kids x)).wk (cutL (setL n.kids x) (stepT x)), 0)) = _
          rw [f2]; rfl
        · rw [getT_one]; exact (cutL_facts (s := stepT x) f1).2.1
        · rw [wk_size, wk_size]
          have := cut_size f2
          omega
        · rw [getT_one] at hg
          rw [cut_set hsrt hg, wk_self]
        · rw [getT_one] at hg
          obtain ⟨pre, suf, e, h2, h3⟩ := kid_some hg
          have hset : setL n.kids x = repL n.kids (stepT x) x := by rw [setL, hg, if_pos (by simp)]
          rw [setR_one, if_pos h2.symm]
          have hk1 : ¬ (n.wk (cutL (setL n.kids x) (stepT x))).kind ≠ 0 := by rw [wk_kind]; exact fun h => h h0
          rw [if_neg hk1, wk_kids, hset, cut_rep hg rfl, set_cut hsrt hg, wk_wk, wk_self]
    · simp at h
  | s :: q :: r, n, x, m, hn, hx, h => by
    have hl := setR_last h
    rw [List.getLast?_cons_cons] at hl
    rw [setR_cons, if_pos hl] at h
    cases hk : kid n.kids s with
    | none => rw [hk] at h; simp at h
    | some k0 =>
      rw [hk] at h
      simp only at h
      by_cases hr : (setR k0 (q :: r) x).2 = 0
      · rw [if_pos hr] at h
        obtain ⟨m0, hm0⟩ : ∃ m0, setR k0 (q :: r) x = (m0, 0) := ⟨(setR k0 (q :: r) x).1, by rw [← hr]⟩
        rw [hm0] at h
        simp only [Prod.mk.injEq, and_true] at h
        subst h
        obtain ⟨n0, rk0, hsrt, hst⟩ := right_has hn hk
        obtain ⟨g1, c0, g2, g3, g4, g5, g6⟩ := set_back (q :: r) k0 x m0 rk0 hx hm0
        obtain ⟨a1, a2, a3⟩ := setR_right _ _ _ _ rk0 hx hm0
        obtain ⟨b1, b2, b3⟩ := cutR_right _ _ _ a1 g2
        have hms : stepT m0 = s := a2.trans hst
        have hcs : stepT c0 = s := b2.trans hms
        obtain ⟨r1, r2, r3, r4, r5⟩ := repL_facts (x := m0) hsrt hk hms
        obtain ⟨u1, u2, u3, u4, u5⟩ := repL_facts (x := c0) hsrt hk hcs
        refine ⟨by rw [getT_cons, wk_kids, r2]; exact g1, n.wk (repL n.kids s c0), ?_, ?_, ?_, fun hg => ?_, fun old hg => ?_⟩
        · rw [cutR_cons, wk_kids, r2]
          simp only [g2, if_true, wk_wk, r4]
        · rw [getT_cons, wk_kids, u2]; exact g3
        · rw [wk_size, wk_size]
          have e1 := rep_size m0 hk
          have e2 := rep_size c0 hk
          omega
        · rw [getT_cons, hk] at hg
          rw [g5 hg, u5, wk_self]
        · rw [getT_cons, hk] at hg
          have h6 := g6 old hg
          rw [setR_cons, if_pos (setR_last h6), wk_kids, u2]
          simp only [h6, if_true, wk_wk, u4]
          rw [show repL n.kids s k0 = n.kids from u5, wk_self]
      · rw [if_neg hr] at h
        rw [h] at hr
        exact absurd rfl hr
def partsW : List Step → List Step → Bool
  | s :: a, t :: b => decide (s ≠ t) || partsW a b
  | _, _ => false
theorem kid_cons (y : T) (l : List T) (t : Step) : kid (y :: l) t = if stepT y = t then some y else kid l t := by
  unfold kid
  rw [List.find?_cons]
  by_cases h : stepT y = t <;> simp [h]
theorem rep_other {s t : Step} {x : T} (hx : stepT x = s) (hst : s ≠ t) : ∀ l : List T, kid (repL l s x) t = kid l t
  | [] => rfl
  | y :: l => by
    rw [repL]
    by_cases h : stepT y = s
    · rw [if_pos h, kid_cons, kid_cons, if_neg (by rw [hx]; exact hst), if_neg (by rw [h]; exact hst)]
    · rw [if_neg h, kid_cons, kid_cons, rep_other hx hst l]
theorem cut_other {s t : Step} (hst : s ≠ t) : ∀ l : List T, kid (cutL l s) t = kid l t
  | [] => rfl
  | y :: l => by
    rw [cutL]
    by_cases h : stepT y = s
    · rw [if_pos h, kid_cons, if_neg (by rw [h]; exact hst)]
    · rw [if_neg h, kid_cons, kid_cons, cut_other hst l]
theorem ins_other {t : Step} {x : T} (hst : stepT x ≠ t) : ∀ l : List T, kid (insL l x) t = kid l t
  | [] => by rw [insL, kid_cons, if_neg hst]
  | y :: l => by
    rw [insL]
    split
    · rw [kid_cons, kid_cons, ins_other hst l]
    · rw [kid_cons, if_neg hst]
theorem set_other {t : Step} {x : T} (hst : stepT x ≠ t) (l : List T) : kid (setL l x) t = kid l t := by
  unfold setL
  split
  · exact rep_other rfl hst l
  · exact ins_other hst l
theorem setR_other : ∀ (a b : List Step) (n x m : T), rightT n = true → setR n a x = (m, 0) → partsW a b = true → getT m b = getT n b
  | [], b, n, x, m, _, h, _ => by simp [setR] at h
  | s :: a, [], n, x, m, _, _, hp => by simp [partsW] at hp
  | [s], t :: b, n, x, m, hn, h, hp => by
    have hst : s ≠ t := by simpa [partsW] using hp
    rw [setR_one] at h
    split at h
    · rename_i hs
      split at h
      · simp at h
      · simp only [Prod.mk.injEq, and_true] at h
        subst h
        rw [getT_cons, getT_cons, wk_kids, set_other (by rw [← hs]; exact hst)]
    · simp at h
  | s :: q :: r, t :: b, n, x, m, hn, h, hp => by
    have hl := setR_last h
    rw [List.getLast?_cons_cons] at hl
    rw [setR_cons, if_pos hl] at h
    cases hk : kid n.kids s with
    | none => rw [hk] at h; simp at h
    | some k0 =>
      rw [hk] at h
      simp only at h
      by_cases hr : (setR k0 (q :: r) x).2 = 0
      · rw [if_pos hr] at h
        obtain ⟨m0, hm0⟩ : ∃ m0, setR k0 (q :: r) x = (m0, 0) := ⟨(setR k0 (q :: r) x).1, by rw [← hr]⟩
        rw [hm0] at h
        simp only [Prod.mk.injEq, and_true] at h
        subst h
        obtain ⟨n0, rk0, hsrt, hst⟩ := right_has hn hk
        have hms : stepT m0 = s := (setR_step hm0).trans hst
        obtain ⟨r1, r2, r3, r4, r5⟩ := repL_facts (x := m0) hsrt hk hms
        rw [getT_cons, getT_cons, wk_kids]
        by_cases hst2 : s = t
        · subst hst2
          rw [r2, hk]
          have hp2 : partsW (q :: r) b = true := by simpa [partsW] using hp
          exact setR_other (q :: r) b k0 x m0 rk0 hm0 hp2
        · rw [rep_other hms hst2]
      · rw [if_neg hr] at h
        rw [h] at hr
        exact absurd rfl hr
theorem cutR_other : ∀ (a b : List Step) (n m : T), rightT n = true → cutR n a = (m, 0) → partsW a b = true → getT m b = getT n b
  | [], b, n, m, _, h, _ => by simp [cutR] at h
  | s :: a, [], n, m, _, _, hp => by simp [partsW] at hp
  | [s], t :: b, n, m, hn, h, hp => by
    have hst : s ≠ t := by simpa [partsW] using hp
    rw [cutR_one] at h
    split at h
    · simp at h
    · simp only [Prod.mk.injEq, and_true] at h
      subst h
      rw [getT_cons, getT_cons, wk_kids, cut_other hst]
  | s :: q :: r, t :: b, n, m, hn, h, hp => by
    rw [cutR_cons] at h
    cases hk : kid n.kids s with
    | none => rw [hk] at h; simp at h
    | some k0 =>
      rw [hk] at h
      simp only at h
      by_cases hr : (cutR k0 (q :: r)).2 = 0
      · rw [if_pos hr] at h
        obtain ⟨m0, hm0⟩ : ∃ m0, cutR k0 (q :: r) = (m0, 0) := ⟨(cutR k0 (q :: r)).1, by rw [← hr]⟩
        rw [hm0] at h
        simp only [Prod.mk.injEq, and_true] at h
        subst h
        obtain ⟨n0, rk0, hsrt, hst⟩ := right_has hn hk
        have hms : stepT m0 = s := (cutR_right _ _ _ rk0 hm0).2.1.trans hst
        obtain ⟨r1, r2, r3, r4, r5⟩ := repL_facts (x := m0) hsrt hk hms
        rw [getT_cons, getT_cons, wk_kids]
        by_cases hst2 : s = t
        · subst hst2
          rw [r2, hk]
          have hp2 : partsW (q :: r) b = true := by simpa [partsW] using hp
          exact cutR_other (q :: r) b k0 m0 rk0 hm0 hp2
        · rw [rep_other hms hst2]
      · rw [if_neg hr] at h
        rw [h] at hr
        exact absurd rfl hr
end Go.Proofs.Ytgkgedjmnbjalaa
set_option linter.unusedSimpArgs false
namespace Go.Proofs.Ytgkgedjmnbjalaa
open Go.RowKit Go.Sort
theorem Blk.new3 (w : World) (A B : Obj) (cs : Array Value) (t : TypeId) : Blk (((w.alloc A).alloc B).alloc (.cells cs t)) (w.heap.size + 1 + 1) cs.toList t := by
  have := Blk.new ((w.alloc A).alloc B) cs t
  simpa using this
theorem ot_zero (S : Nat → Prop) (w : World) : OT S w zeroT [.string ⟨#[]⟩, .string ⟨#[]⟩, .int .i64 0, .int .u64 0, .string ⟨#[]⟩, .slice none 0 0] :=
  .mk S w ⟨#[]⟩ ⟨#[]⟩ 0 0 ⟨#[]⟩ [] none 0 [] (fun _ _ => False) rfl (by simp) (by simp) ⟨rfl, .inl ⟨rfl, rfl⟩⟩ (fun g h => by cases h) (fun _ _ h => h.elim) (fun _ _ _ h => h.elim) (fun i k c h => by simp at h)
def ChgPost (r : T × Int) (w w' : World) (v : Value) : Prop := ∃ c : List Value, v = .tuple #[.agg c.toArray, .int .i64 r.2] ∧ OT (fun b => w.heap.size ≤ b ∧ b < w'.heap.size) w' r.1 c ∧ Ext w w'
theorem setR_none (t x : T) : setR t [] x = (zeroT, 1) := rfl
theorem setR_snoc (t x : T) (init : List Step) (s : Step) : setR t (init ++ [s]) x = if s = stepT x then (match getT t init with | none => (zeroT, (30 : Int)) | some p => if p.kind ≠ 0 then (zeroT, 30) else (putT t init (p.wk (setL p.kids x)), 0)) else (zeroT, 1) := by
  unfold setR
  rw [List.getLast?_concat, List.dropLast_concat]
  by_cases h : s = stepT x
  · rw [if_pos (by rw [h]), if_pos h]
    cases hg : getT t init with
    | none => rfl
    | some p => simp only [setT_put init s t p x hg]
  · rw [if_neg (by simpa using h), if_neg h]
theorem WRow.init {S : Nat → Prop} {w : World} {A : Option Addr} {l : List Step} {s : Step} {c : Nat} (h : WRow S w A (l ++ [s]) c) : WRow S w A l c := by
  obtain ⟨h1, h2, h3, h4⟩ := h
  rw [List.length_append] at h1 h2
  refine ⟨by omega, by omega, h3, fun _ => ?_⟩
  obtain ⟨b, off, h5, h6, h7⟩ := h4 (by simp)
  refine ⟨b, off, h5, h6, fun j v hj => h7 j v ?_⟩
  rw [wcells_append, List.getElem?_append_left (List.getElem?_eq_some_iff.1 hj).1]
  exact hj
theorem OT.lt {S : Nat → Prop} {w : World} {t : T} {c : List Value} (h : OT S w t c) : OT (fun b => S b ∧ b < w.heap.size) w t c := by
  induction h with
  | mk S w name key kind num text kids K kc css Si hl h6 hb hown hg hS hd hr ih =>
    exact .mk _ w name key kind num text kids K kc css (fun i b => Si i b ∧ b < w.heap.size) hl h6 hb hown (fun g h => ⟨⟨(hg g h).1, own_lt hown g h⟩, fun i hi => (hg g h).2 i hi.1⟩) (fun i b h => ⟨hS i b h.1, h.2⟩) (fun i j b h1 h2 => hd i j b h1.1 h2.1) ih
theorem cells_same {w w' : World} {b o : Nat} {c : List Value} (hb : w'.heap[b]? = w.heap[b]?) (h : ∀ (q : Nat) v, c[q]? = some v → w.cell? ⟨b, o + q, none⟩ = some v) : ∀ (q : Nat) v, c[q]? = some v → w'.cell? ⟨b, o + q, none⟩ = some v := fun q v hq => by
  rw [← h q v hq]; exact World.cell?_of_block hb
theorem six_same {w w' : World} {b o : Nat} {c : List Value} (hb : w'.heap[b]? = w.heap[b]?) (h : ∀ (q : Nat) v, c[q]? = some v → w.cell? ⟨b, o + q, none⟩ = some v) : Six w w' b o c := fun cs hcs =>
  ⟨cs, hb.trans hcs, rfl, fun _ _ => rfl, fun q v hq => by rw [← hcs.cell]; exact h q v hq⟩
theorem right_get : ∀ (way : List Step) (t u : T), rightT t = true → getT t way = some u → rightT u = true
  | [], t, u, h, hg => by cases hg; exact h
  | s :: r, t, u, h, hg => by
    rw [getT_cons] at hg
    cases hk : kid t.kids s with
    | none => rw [hk] at hg; cases hg
    | some k => rw [hk] at hg; exact right_get r k u (right_has h hk).2.1 hg
theorem size_get : ∀ (way : List Step) (t u : T), getT t way = some u → u.size ≤ t.size
  | [], t, u, hg => by cases hg; exact Nat.le_refl _
  | s :: r, t, u, hg => by
    rw [getT_cons] at hg
    cases hk : kid t.kids s with
    | none => rw [hk] at hg; cases hg
    | some k =>
      rw [hk] at hg
      have h1 := size_get r k u hg
      obtain ⟨pre, suf, e, _⟩ := kid_some hk
      have h2 : k.size < t.size := by rw [t.size_eq, e, sizeL_append]; simp only [sizeL]; omega
      omega
theorem ins_stands {l : List T} {x : T} {i : Nat} (h : Stands l x i) : insL l x = l.take i ++ x :: l.drop i := by
  obtain ⟨h1, h2, h3⟩ := h
  conv => lhs; rw [← List.take_append_drop i l]
  rw [ins_pre (fun q hq => by
    obtain ⟨k, hk⟩ := List.getElem?_of_mem hq
    have hki : k < i := by have := (List.getElem?_eq_some_iff.1 hk).1; simp at this; omega
    rw [List.getElem?_take, if_pos hki] at hk
    exact h2 k q hki hk)]
  congr 1
  by_cases hi : i < l.length
  · rw [List.drop_eq_getElem_cons hi, insL, if_neg (by rw [h3 i _ (Nat.le_refl _) (List.getElem?_eq_getElem hi)]; simp)]
  · rw [List.drop_of_length_le (by omega)]; rfl
theorem flatten_take {n : Nat} : ∀ (css : List (List Value)), (∀ c ∈ css, c.length = n) → ∀ i, css.flatten.take (i * n) = (css.take i).flatten ∧ css.flatten.drop (i * n) = (css.drop i).flatten
  | [], _, i => by simp
  | c :: css, h, 0 => by simp
  | c :: css, h, i + 1 => by
    obtain ⟨h1, h2⟩ := flatten_take css (fun d hd => h d (by simp [hd])) i
    have hc := h c (by simp)
    have e : (i + 1) * n = c.length + i * n := by rw [hc, Nat.add_mul]; omega
    rw [List.flatten_cons, e, List.take_length_add_append, List.drop_length_add_append, h1, h2]
    exact ⟨rfl, rfl⟩
def insF (i j : Nat) : Option Nat := if j < i then some j else if j = i then none else some (j - 1)
theorem insF_inj (i j j' : Nat) (h : insF i j = insF i j') : j = j' := by
  unfold insF at h
  split at h <;> split at h <;> (try split at h) <;> simp at h <;> omega
theorem insF_get {α : Type} {l : List α} {x y : α} {i j : Nat} (hi : i ≤ l.length) (h : (l.take i ++ x :: l.drop i)[j]? = some y) : (∃ q, insF i j = some q ∧ l[q]? = some y) ∨ (insF i j = none ∧ y = x) := by
  have htl : (l.take i).length = i := by rw [List.length_take]; omega
  unfold insF
  by_cases h1 : j < i
  · rw [List.getElem?_append_left (by omega), List.getElem?_take, if_pos h1] at h
    exact .inl ⟨j, by rw [if_pos h1], h⟩
  · rw [List.getElem?_append_right (by omega), htl] at h
    by_cases h2 : j = i
    · subst h2
      rw [Nat.sub_self] at h
      exact .inr ⟨by rw [if_neg h1, if_pos rfl], by simpa using h.symm⟩
    · obtain ⟨m, hm⟩ : ∃ m, j - i = m + 1 := ⟨j - i - 1, by omega⟩
      rw [hm, List.getElem?_cons_succ, List.getElem?_drop] at h
      exact .inl ⟨j - 1, by rw [if_neg h1, if_neg h2], by rw [← h]; congr 1; omega⟩
theorem insert_at {K K2 : Option Addr} {n kc kc2 B : Nat} {w : World} (hB : B ≤ w.heap.size) (h : (Value.slice K2 (n + 1) kc2).ownBlock = (Value.slice K (n + 1) kc).ownBlock ∨ (Value.slice K2 (n + 1) kc2).ownBlock = some w.heap.size ∨ ∃ g, (Value.slice K2 (n + 1) kc2).ownBlock = some g ∧ w.heap.size ≤ g) :
    (Value.slice K2 (n + 1) kc2).ownBlock = (Value.slice K n kc).ownBlock ∨ ∃ g, (Value.slice K2 (n + 1) kc2).ownBlock = some g ∧ B ≤ g := by
  rcases h with h | h | ⟨g, h, h2⟩
  · exact .inl (h.trans own_any_n)
  · exact .inr ⟨_, h, hB⟩
  · exact .inr ⟨g, h, Nat.le_trans hB h2⟩
def spStand (l : List T) (x : T) : SP := ⟨fun v _ => ∃ i : Nat, v = .int .i64 i ∧ Stands l x i, fun _ _ _ _ h => h⟩
def spSrch (l : List T) (x : T) : SP := ⟨fun v _ => ∃ (i : Nat) (b : Bool), v = .tuple #[.int .i64 i, .bool b] ∧ Stands l x i, fun _ _ _ _ h => h⟩
def spNewRow (cs : List Value) (B : Nat) : SP := ⟨fun v w => ∃ D, v = .slice (some ⟨D, 0, none⟩) 1 1 ∧ Blk w D cs 54 ∧ B ≤ D, fun _ _ _ h ⟨D, e, hb, h2⟩ => ⟨D, e, hb.ext h, h2⟩⟩
def spIns (row : Option Nat) (n B : Nat) (xs : List Value) : SP := ⟨fun v w => ∃ K' kc', v = .slice K' n kc' ∧ w.ownsRow 0 54 6 v n xs ∧ (v.ownBlock = row ∨ ∃ g, v.ownBlock = some g ∧ B ≤ g), fun _ _ _ h ⟨K, c, e, hb, h2⟩ => ⟨K, c, e, own_ext h hb, h2⟩⟩
set_option maxHeartbeats 1000000 in
theorem tree_leaf (a : T) (K1 : Option Addr) (n1 c1 : Nat) (w : World) :
    Calls Try.prog 117 #[.agg (cT a.name a.key a.kind a.num a.text K1 n1 c1).toArray] w fun e w' => e = .returned (.bool (a.kind != 0)) ∧ Ext w w' := by
  simp only [cT]
  go_enter Try.func117, Try.ntmps117
  go_wp2_with fail
  go_ret
  exact ⟨rfl, Ext.alloc _ _⟩
set_option maxRecDepth 100000 in
set_option maxHeartbeats 4000000 in
theorem tree_set_nil (t x : T) (S Sx : Nat → Prop) (w : World) (c cx : List Value) (A : Option Addr) (ac : Nat) (h : RT S w t c) (hx : RT Sx w x cx) :
    Calls Try.prog 70 #[.agg c.toArray, .slice A 0 ac, .agg cx.toArray] w (Ret (ChgPost (setR t [] x) w)) := by
  obtain ⟨K, kc, rfl, _⟩ := h.row
  obtain ⟨Kx, kcx, rfl, _⟩ := hx.row
  clear h hx
  rw [setR_none]
  simp only [cT]
  go_enter Try.func70, Try.ntmps70
  go_wp2_with fail
  have kx := Hd.mk (((Ext.alloc w (.cells #[.string t.name, .string t.key, .int .i64 t.kind, .int .u64 t.num, .string t.text, .slice K t.kids.length kc] 54)).trans (Ext.alloc _ (.cells #[.string x.name, .string x.key, .int .i64 x.kind, .int .u64 x.num, .string x.text, .slice Kx x.kids.length kcx] 54))).trans (Ext.alloc _ (.cells #[.string ⟨#[]⟩, .string ⟨#[]⟩, .int .i64 0, .int .u64 0, .string ⟨#[]⟩, .slice none 0 0] 54)))
  have kT := Hd.mk (((Blk.new w #[.string t.name, .string t.key, .int .i64 t.kind, .int .u64 t.num, .string t.text, .slice K t.kids.length kc] 54).alloc (.cells #[.string x.name, .string x.key, .int .i64 x.kind, .int .u64 x.num, .string x.text, .slice Kx x.kids.length kcx] 54)).alloc (.cells #[.string ⟨#[]⟩, .string ⟨#[]⟩, .int .i64 0, .int .u64 0, .string ⟨#[]⟩, .slice none 0 0] 54))
  have kX := Hd.mk ((Blk.new2 w (.cells #[.string t.name, .string t.key, .int .i64 t.kind, .int .u64 t.num, .string t.text, .slice K t.kids.length kc] 54) #[.string x.name, .string x.key, .int .i64 x.kind, .int .u64 x.num, .string x.text, .slice Kx x.kids.length kcx] 54).alloc (.cells #[.string ⟨#[]⟩, .string ⟨#[]⟩, .int .i64 0, .int .u64 0, .string ⟨#[]⟩, .slice none 0 0] 54))
  have kZ := Hd.mk (Blk.new3 w (.cells #[.string t.name, .string t.key, .int .i64 t.kind, .int .u64 t.num, .string t.text, .slice K t.kids.length kc] 54) (.cells #[.string x.name, .string x.key, .int .i64 x.kind, .int .u64 x.num, .string x.text, .slice Kx x.kids.length kcx] 54) #[.string ⟨#[]⟩, .string ⟨#[]⟩, .int .i64 0, .int .u64 0, .string ⟨#[]⟩, .slice none 0 0] 54)
  generalize ((w.alloc _).alloc _).alloc _ = W at *
  generalize hp : w.heap.size = p at *
  replace hp := Hd.mk hp
  refine Flow.wp_region_flow_l (fun qq => match qq with
    | 16 => SP.eq (.int .i64 (-1))
    | 17 => SP.eq (.bool true)
    | 18 => SP.eq (.bool true)
    | 19 => SP.eq (undef)
    | 20 => SP.eq (undef)
    | 21 => SP.eq (undef)
    | 22 => SP.eq (undef)
    | 23 => SP.eq (undef)
    | 24 => SP.eq (undef)
    | 25 => SP.eq (undef)
    | 26 => SP.eq (.bool true)
    | _ => SP.any) 11 (by kernel_rfl) 80 rfl (by kernel_rfl) ?_ ?_
  · skip
    refine ⟨?_, ?_, ?_, ?_, ?_, ?_, ?_, ?_, ?_, ?_, ?_, trivial⟩
    · intro act W2 hk
      refine Flow.does_intro rfl (fun Kq hK => ?_)
      have e8 : act.tmps[8]?.getD undef = .int .i64 (-1) := hk.o 8 (by kernel_rfl)
      clear hk
      go_simp
      exact hK _ _ (Ext.refl _) (fun d hd => by cases hd; rfl)
    · intro act W2 hk
      refine Flow.does_intro rfl (fun Kq hK => ?_)
      have e16 : act.tmps[16]?.getD undef = .int .i64 (-1) := hk.v 16 (by kernel_rfl)
      clear hk
      go_simp
      exact hK _ _ (Ext.refl _) (fun d hd => by cases hd; rfl)
    · intro act W2 hk
      refine Flow.does_intro rfl (fun Kq hK => ?_)
      have e17 : act.tmps[17]?.getD undef = .bool true := hk.v 17 (by kernel_rfl)
      clear hk
      go_simp
      exact hK _ _ (Ext.refl _) (fun d hd => by cases hd; rfl)
    · intro act W2 hk
      have eg : act.tmps[18]?.getD undef = .bool true := hk.v 18 (by kernel_rfl)
      exact Flow.does_skip (wanted_no rfl rfl eg) (fun d hd => by cases hd; rfl)
    · intro act W2 hk
      have eg : act.tmps[18]?.getD undef = .bool true := hk.v 18 (by kernel_rfl)
      exact Flow.does_skip (wanted_no rfl rfl eg) (fun d hd => by cases hd; rfl)
    · intro act W2 hk
      have eg : act.tmps[18]?.getD undef = .bool true := hk.v 18 (by kernel_rfl)
      exact Flow.does_skip (wanted_no rfl rfl eg) (fun d hd => by cases hd; rfl)
    · intro act W2 hk
      have eg : act.tmps[18]?.getD undef = .bool true := hk.v 18 (by kernel_rfl)
      exact Flow.does_skip (wanted_no rfl rfl eg) (fun d hd => by cases hd; rfl)
    · intro act W2 hk
      have eg : act.tmps[18]?.getD undef = .bool true := hk.v 18 (by kernel_rfl)
      exact Flow.does_skip (wanted_no rfl rfl eg) (fun d hd => by cases hd; rfl)
    · intro act W2 hk
      have eg : act.tmps[18]?.getD undef = .bool true := hk.v 18 (by kernel_rfl)
      exact Flow.does_skip (wanted_no rfl rfl eg) (fun d hd => by cases hd; rfl)
    · intro act W2 hk
      have eg : act.tmps[18]?.getD undef = .bool true := hk.v 18 (by kernel_rfl)
      exact Flow.does_skip (wanted_no rfl rfl eg) (fun d hd => by cases hd; rfl)
    · intro act W2 hk
      refine Flow.does_intro rfl (fun Kq hK => ?_)
      have e18 : act.tmps[18]?.getD undef = .bool true := hk.v 18 (by kernel_rfl)
      clear hk
      go_simp
      exact hK _ _ (Ext.refl _) (fun d hd => by cases hd; rfl)
  · intro act W2 he
    have hxW2 := Hd.mk ((Ext.drew W).trans he.ext)
    obtain ⟨us, hA, hF⟩ := he.out [16, 17, 18, 19, 20, 21, 22, 23, 24, 25, 26] (by kernel_rfl)
    simp only [Flow.fillL, List.contains_cons, List.contains_nil, Nat.reduceBEq, Bool.or_false, Bool.false_or, Bool.or_true, Bool.true_or, ↓reduceIte, Nat.reduceAdd, Bool.false_eq_true] at hA
    subst hA
    have f26 : us 26 = .bool true := hF 26 (by simp)
    clear hF he
    rw [f26]
    clear f26
    refine (show wpList _ _ _ [] _ _ from ?_)
    replace kx := Hd.mk (kx.out.trans hxW2.out)
    replace kZ := Hd.mk (kZ.out.ext hxW2.out)
    clear kT kX hxW2
    have gZ := kZ.out.cell
    have fZ := kZ.out.free
    go_wp2_with fail
    have hu := Hd.mk ((((((Upd.setCell W2 ⟨p + 1 + 1, 0, none⟩ (.string ⟨#[]⟩)).trans (Upd.setCell _ ⟨p + 1 + 1, 1, none⟩ (.string ⟨#[]⟩))).trans (Upd.setCell _ ⟨p + 1 + 1, 2, none⟩ (.int .i64 0))).trans (Upd.setCell _ ⟨p + 1 + 1, 3, none⟩ (.int .u64 0))).trans (Upd.setCell _ ⟨p + 1 + 1, 4, none⟩ (.string ⟨#[]⟩))).trans (Upd.setCell _ ⟨p + 1 + 1, 5, none⟩ (.slice none 0 0)))
    exact ret_box2 rfl (p + 1 + 1) _ 54 _ ((((((kZ.out.setCell 0 (.string ⟨#[]⟩)).setCell 1 (.string ⟨#[]⟩)).setCell 2 (.int .i64 0)).setCell 3 (.int .u64 0)).setCell 4 (.string ⟨#[]⟩)).setCell 5 (.slice none 0 0)) rfl rfl Try.underlying54 rfl size54
      ⟨_, rfl, _, rfl, ot_zero _ _, Below.trans kx.out (hu.out.below (by rw [hp.out]; show p ≤ p + 1 + 1; omega))⟩
set_option maxRecDepth 100000 in
set_option maxHeartbeats 4000000 in
theorem tree_set_ne (t x : T) (init : List Step) (s : Step) (S Sx S' : Nat → Prop) (w : World) (c cx : List Value) (A : Option Addr) (ac : Nat) (h : RT S w t c) (hx : RT Sx w x cx) (hw : WRow S' w A (init ++ [s]) ac) (hne : s ≠ stepT x) :
    Calls Try.prog 70 #[.agg c.toArray, .slice A (init ++ [s]).length ac, .agg cx.toArray] w (Ret (ChgPost (setR t (init ++ [s]) x) w)) := by
  rw [setR_snoc, if_neg hne]
  obtain ⟨K, kc, rfl, _⟩ := h.row
  obtain ⟨Kx, kcx, rfl, _⟩ := hx.row
  have kr := Hd.mk h
  have krx := Hd.mk hx
  have kw := Hd.mk hw
  have hlen : (init ++ [s]).length = init.length + 1 := by simp
  have hcap := hw.cap
  have hwl := hw.len
  obtain ⟨b2, o2, rfl, _, hdk⟩ := WRow.at hw (j := init.length) (x := s) (by simp)
  rw [hlen] at hcap hwl ⊢
  have kwi := Hd.mk hw.init
  have hs1 := Hd.mk (fun W => tree_step x Kx x.kids.length kcx W)
  clear h hx hw hlen
  obtain ⟨s1, s2⟩ := s
  simp only [cT] at kr krx hs1 ⊢
  have hv := Hd.mk (not2 (show ¬ (s1 = x.name ∧ s2 = x.key) from fun h => hne (by rw [h.1, h.2])))
  generalize init.length = L at *
  clear hne
  go_enter Try.func70, Try.ntmps70
  go_wp2_with fail
  have kx := Hd.mk (((Ext.alloc w (.cells #[.string t.name, .string t.key, .int .i64 t.kind, .int .u64 t.num, .string t.text, .slice K t.kids.length kc] 54)).trans (Ext.alloc _ (.cells #[.string x.name, .string x.key, .int .i64 x.kind, .int .u64 x.num, .string x.text, .slice Kx x.kids.length kcx] 54))).trans (Ext.alloc _ (.cells #[.string ⟨#[]⟩, .string ⟨#[]⟩, .int .i64 0, .int .u64 0, .string ⟨#[]⟩, .slice none 0 0] 54)))
  have kT := Hd.mk (((Blk.new w #[.string t.name, .string t.key, .int .i64 t.kind, .int .u64 t.num, .string t.text, .slice K t.kids.length kc] 54).alloc (.cells #[.string x.name, .string x.key, .int .i64 x.kind, .int .u64 x.num, .string x.text, .slice Kx x.kids.length kcx] 54)).alloc (.cells #[.string ⟨#[]⟩, .string ⟨#[]⟩, .int .i64 0, .int .u64 0, .string ⟨#[]⟩, .slice none 0 0] 54))
  have kX := Hd.mk ((Blk.new2 w (.cells #[.string t.name, .string t.key, .int .i64 t.kind, .int .u64 t.num, .string t.text, .slice K t.kids.length kc] 54) #[.string x.name, .string x.key, .int .i64 x.kind, .int .u64 x.num, .string x.text, .slice Kx x.kids.length kcx] 54).alloc (.cells #[.string ⟨#[]⟩, .string ⟨#[]⟩, .int .i64 0, .int .u64 0, .string ⟨#[]⟩, .slice none 0 0] 54))
  have kZ := Hd.mk (Blk.new3 w (.cells #[.string t.name, .string t.key, .int .i64 t.kind, .int .u64 t.num, .string t.text, .slice K t.kids.length kc] 54) (.cells #[.string x.name, .string x.key, .int .i64 x.kind, .int .u64 x.num, .string x.text, .slice Kx x.kids.length kcx] 54) #[.string ⟨#[]⟩, .string ⟨#[]⟩, .int .i64 0, .int .u64 0, .string ⟨#[]⟩, .slice none 0 0] 54)
  generalize ((w.alloc _).alloc _).alloc _ = W at *
  generalize hp : w.heap.size = p at *
  replace hp := Hd.mk hp
  have kcy := Hd.mk (fun (q : Nat) u hq => Ext.cell kx.out (hdk q u hq))
  have hLl : L < L + 1 := by omega
  refine Flow.wp_region_flow_l (fun qq => match qq with
    | 16 => SP.eq (.int .i64 (L : Nat))
    | 17 => SP.eq (.bool false)
    | 18 => SP.eq (.bool false)
    | 19 => SP.eq (.slice (some ⟨b2, o2, none⟩) (L + 1) ac)
    | 20 => SP.eq (.int .i64 (L : Nat))
    | 21 => SP.eq (.pointer (some ⟨b2, o2 + L * 2, none⟩))
    | 22 => SP.eq (.agg #[.string s1, .string s2])
    | 23 => SP.eq (.agg #[.string x.name, .string x.key, .int .i64 x.kind, .int .u64 x.num, .string x.text, .slice Kx x.kids.length kcx])
    | 24 => SP.eq (.agg #[.string x.name, .string x.key])
    | 25 => SP.eq (.bool true)
    | 26 => SP.eq (.bool true)
    | _ => SP.any) 11 (by kernel_rfl) 80 rfl (by kernel_rfl) ?_ ?_
  · skip
    refine ⟨?_, ?_, ?_, ?_, ?_, ?_, ?_, ?_, ?_, ?_, ?_, trivial⟩
    · intro act W2 hk
      refine Flow.does_intro rfl (fun Kq hK => ?_)
      have e8 : act.tmps[8]?.getD undef = .int .i64 (L : Nat) := hk.o 8 (by kernel_rfl)
      clear hk
      go_simp
      exact hK _ _ (Ext.refl _) (fun d hd => by cases hd; rfl)
    · intro act W2 hk
      refine Flow.does_intro rfl (fun Kq hK => ?_)
      have e16 : act.tmps[16]?.getD undef = .int .i64 (L : Nat) := hk.v 16 (by kernel_rfl)
      clear hk
      go_simp
      exact hK _ _ (Ext.refl _) (fun d hd => by cases hd; first | rfl | (simp [SP.eq]; omega))
    · intro act W2 hk
      refine Flow.does_intro rfl (fun Kq hK => ?_)
      have e17 : act.tmps[17]?.getD undef = .bool false := hk.v 17 (by kernel_rfl)
      clear hk
      go_simp
      exact hK _ _ (Ext.refl _) (fun d hd => by cases hd; rfl)
    · intro act W2 hk
      have eg : act.tmps[18]?.getD undef = .bool false := hk.v 18 (by kernel_rfl)
      refine Flow.does_intro (wanted_yes rfl rfl eg) (fun Kq hK => ?_)
      clear eg
      have e1 : act.tmps[1]?.getD undef = .slice (some ⟨b2, o2, none⟩) (L + 1) ac := hk.o 1 (by kernel_rfl)
      clear hk
      go_simp
      exact hK _ _ (Ext.refl _) (fun d hd => by cases hd; rfl)
    · intro act W2 hk
      have eg : act.tmps[18]?.getD undef = .bool false := hk.v 18 (by kernel_rfl)
      refine Flow.does_intro (wanted_yes rfl rfl eg) (fun Kq hK => ?_)
      clear eg
      have e8 : act.tmps[8]?.getD undef = .int .i64 (L : Nat) := hk.o 8 (by kernel_rfl)
      clear hk
      go_simp
      exact hK _ _ (Ext.refl _) (fun d hd => by cases hd; rfl)
    · intro act W2 hk
      have eg : act.tmps[18]?.getD undef = .bool false := hk.v 18 (by kernel_rfl)
      refine Flow.does_intro (wanted_yes rfl rfl eg) (fun Kq hK => ?_)
      clear eg
      have e19 : act.tmps[19]?.getD undef = .slice (some ⟨b2, o2, none⟩) (L + 1) ac := hk.v 19 (by kernel_rfl)
      have e20 : act.tmps[20]?.getD undef = .int .i64 (L : Nat) := hk.v 20 (by kernel_rfl)
      have hLi : (L : Int) < (L : Int) + 1 := by omega
      clear hk
      go_simp
      exact hK _ _ (Ext.refl _) (fun d hd => by cases hd; rfl)
    · intro act W2 hk
      have eg : act.tmps[18]?.getD undef = .bool false := hk.v 18 (by kernel_rfl)
      refine Flow.does_intro (wanted_yes rfl rfl eg) (fun Kq hK => ?_)
      clear eg
      have e21 : act.tmps[21]?.getD undef = .pointer (some ⟨b2, o2 + L * 2, none⟩) := hk.v 21 (by kernel_rfl)
      have g0 := Ext.cell ((Ext.drew W).trans hk.ext) ((kcy.out) 0 _ rfl)
      rw [Nat.add_zero] at g0
      have g1 := Ext.cell ((Ext.drew W).trans hk.ext) ((kcy.out) 1 _ rfl)
      clear hk
      go_simp
      exact hK _ _ (Ext.refl _) (fun d hd => by cases hd; rfl)
    · intro act W2 hk
      have eg : act.tmps[18]?.getD undef = .bool false := hk.v 18 (by kernel_rfl)
      refine Flow.does_intro (wanted_yes rfl rfl eg) (fun Kq hK => ?_)
      clear eg
      have e5 : act.tmps[5]?.getD undef = .pointer (some ⟨p + 1, 0, none⟩) := hk.o 5 (by kernel_rfl)
      have g := ((kX.out).ext ((Ext.drew W).trans hk.ext)).cell
      clear hk
      go_simp
      exact hK _ _ (Ext.refl _) (fun d hd => by cases hd; rfl)
    · intro act W2 hk
      have eg : act.tmps[18]?.getD undef = .bool false := hk.v 18 (by kernel_rfl)
      refine Flow.does_intro (wanted_yes rfl rfl eg) (fun Kq hK => ?_)
      clear eg
      have e23 : act.tmps[23]?.getD undef = .agg #[.string x.name, .string x.key, .int .i64 x.kind, .int .u64 x.num, .string x.text, .slice Kx x.kids.length kcx] := hk.v 23 (by kernel_rfl)
      clear hk
      go_simp
      refine Calls.mono (hs1.out _) ?_
      rintro e W3 ⟨rfl, hx⟩
      exact hK _ _ hx (fun d hd => by cases hd; rfl)
    · intro act W2 hk
      have eg : act.tmps[18]?.getD undef = .bool false := hk.v 18 (by kernel_rfl)
      refine Flow.does_intro (wanted_yes rfl rfl eg) (fun Kq hK => ?_)
      clear eg
      have e22 : act.tmps[22]?.getD undef = .agg #[.string s1, .string s2] := hk.v 22 (by kernel_rfl)
      have e24 : act.tmps[24]?.getD undef = .agg #[.string x.name, .string x.key] := hk.v 24 (by kernel_rfl)
      clear hk
      skip
      rcases hv.out with q | ⟨q1, q⟩
      all_goals go_simp
      all_goals exact hK _ _ (Ext.refl _) (fun d hd => by cases hd; rfl)
    · intro act W2 hk
      refine Flow.does_intro rfl (fun Kq hK => ?_)
      have e18 : act.tmps[18]?.getD undef = .bool false := hk.v 18 (by kernel_rfl)
      have e25 : act.tmps[25]?.getD undef = .bool true := hk.v 25 (by kernel_rfl)
      clear hk
      go_simp
      exact hK _ _ (Ext.refl _) (fun d hd => by cases hd; rfl)
  · intro act W2 he
    have hxW2 := Hd.mk ((Ext.drew W).trans he.ext)
    obtain ⟨us, hA, hF⟩ := he.out [16, 17, 18, 19, 20, 21, 22, 23, 24, 25, 26] (by kernel_rfl)
    simp only [Flow.fillL, List.contains_cons, List.contains_nil, Nat.reduceBEq, Bool.or_false, Bool.false_or, Bool.or_true, Bool.true_or, ↓reduceIte, Nat.reduceAdd, Bool.false_eq_true] at hA
    subst hA
    have f26 : us 26 = .bool true := hF 26 (by simp)
    clear hF he
    rw [f26]
    clear f26
    refine (show wpList _ _ _ [] _ _ from ?_)
    replace kx := Hd.mk (kx.out.trans hxW2.out)
    replace kZ := Hd.mk (kZ.out.ext hxW2.out)
    clear kT kX hxW2
    have gZ := kZ.out.cell
    have fZ := kZ.out.free
    go_wp2_with fail
    have hu := Hd.mk ((((((Upd.setCell W2 ⟨p + 1 + 1, 0, none⟩ (.string ⟨#[]⟩)).trans (Upd.setCell _ ⟨p + 1 + 1, 1, none⟩ (.string ⟨#[]⟩))).trans (Upd.setCell _ ⟨p + 1 + 1, 2, none⟩ (.int .i64 0))).trans (Upd.setCell _ ⟨p + 1 + 1, 3, none⟩ (.int .u64 0))).trans (Upd.setCell _ ⟨p + 1 + 1, 4, none⟩ (.string ⟨#[]⟩))).trans (Upd.setCell _ ⟨p + 1 + 1, 5, none⟩ (.slice none 0 0)))
    exact ret_box2 rfl (p + 1 + 1) _ 54 _ ((((((kZ.out.setCell 0 (.string ⟨#[]⟩)).setCell 1 (.string ⟨#[]⟩)).setCell 2 (.int .i64 0)).setCell 3 (.int .u64 0)).setCell 4 (.string ⟨#[]⟩)).setCell 5 (.slice none 0 0)) rfl rfl Try.underlying54 rfl size54
      ⟨_, rfl, _, rfl, ot_zero _ _, Below.trans kx.out (hu.out.below (by rw [hp.out]; show p ≤ p + 1 + 1; omega))⟩
set_option maxRecDepth 100000 in
set_option maxHeartbeats 8000000 in
theorem tree_set_eq (t x : T) (init : List Step) (S Sx S' : Nat → Prop) (w : World) (c cx : List Value) (A : Option Addr) (ac : Nat) (h : RT S w t c) (hx : RT Sx w x cx) (hw : WRow S' w A (init ++ [stepT x]) ac) (hri : rightT t = true) (hsz : t.size + x.size ≤ 1048576) :
    Calls Try.prog 70 #[.agg c.toArray, .slice A (init ++ [stepT x]).length ac, .agg cx.toArray] w (Ret (ChgPost (setR t (init ++ [stepT x]) x) w)) := by
  rw [setR_snoc, if_pos rfl]
  generalize hr0 : (match getT t init with | none => (zeroT, (30 : Int)) | some p => if p.kind ≠ 0 then (zeroT, 30) else (putT t init (p.wk (setL p.kids x)), 0)) = r
  replace hr0 := Hd.mk hr0
  obtain ⟨K, kc, rfl, _⟩ := h.row
  obtain ⟨Kx, kcx, rfl, _⟩ := hx.row
  have kr := Hd.mk h
  have krx := Hd.mk hx
  have kw := Hd.mk hw
  have hlen : (init ++ [stepT x]).length = init.length + 1 := by simp
  have hcap := hw.cap
  have hwl := hw.len
  obtain ⟨b2, o2, rfl, _, hdk⟩ := WRow.at hw (j := init.length) (x := stepT x) (by simp)
  rw [hlen] at hcap hwl ⊢
  have kwi := Hd.mk hw.init
  have hs1 := Hd.mk (fun W => tree_step x Kx x.kids.length kcx W)
  clear h hx hw hlen
  simp only [cT] at kr krx hs1 ⊢
  have hriH := Hd.mk hri
  have hszH := Hd.mk hsz
  clear hri hsz
  generalize hL : init.length = L at *
  replace hL := Hd.mk hL
  go_enter Try.func70, Try.ntmps70
  go_wp2_with fail
  have kx := Hd.mk (((Ext.alloc w (.cells #[.string t.name, .string t.key, .int .i64 t.kind, .int .u64 t.num, .string t.text, .slice K t.kids.length kc] 54)).trans (Ext.alloc _ (.cells #[.string x.name, .string x.key, .int .i64 x.kind, .int .u64 x.num, .string x.text, .slice Kx x.kids.length kcx] 54))).trans (Ext.alloc _ (.cells #[.string ⟨#[]⟩, .string ⟨#[]⟩, .int .i64 0, .int .u64 0, .string ⟨#[]⟩, .slice none 0 0] 54)))
  have kT := Hd.mk (((Blk.new w #[.string t.name, .string t.key, .int .i64 t.kind, .int .u64 t.num, .string t.text, .slice K t.kids.length kc] 54).alloc (.cells #[.string x.name, .string x.key, .int .i64 x.kind, .int .u64 x.num, .string x.text, .slice Kx x.kids.length kcx] 54)).alloc (.cells #[.string ⟨#[]⟩, .string ⟨#[]⟩, .int .i64 0, .int .u64 0, .string ⟨#[]⟩, .slice none 0 0] 54))
  have kX := Hd.mk ((Blk.new2 w (.cells #[.string t.name, .string t.key, .int .i64 t.kind, .int .u64 t.num, .string t.text, .slice K t.kids.length kc] 54) #[.string x.name, .string x.key, .int .i64 x.kind, .int .u64 x.num, .string x.text, .slice Kx x.kids.length kcx] 54).alloc (.cells #[.string ⟨#[]⟩, .string ⟨#[]⟩, .int .i64 0, .int .u64 0, .string ⟨#[]⟩, .slice none 0 0] 54))
  have kZ := Hd.mk (Blk.new3 w (.cells #[.string t.name, .string t.key, .int .i64 t.kind, .int .u64 t.num, .string t.text, .slice K t.kids.length kc] 54) (.cells #[.string x.name, .string x.key, .int .i64 x.kind, .int .u64 x.num, .string x.text, .slice Kx x.kids.length kcx] 54) #[.string ⟨#[]⟩, .string ⟨#[]⟩, .int .i64 0, .int .u64 0, .string ⟨#[]⟩, .slice none 0 0] 54)
  generalize ((w.alloc _).alloc _).alloc _ = W at *
  generalize hp : w.heap.size = p at *
  replace hp := Hd.mk hp
  have kcy := Hd.mk (fun (q : Nat) u hq => Ext.cell kx.out (hdk q u hq))
  have hLl : L < L + 1 := by omega
  refine Flow.wp_region_flow_l (fun qq => match qq with
    | 16 => SP.eq (.int .i64 (L : Nat))
    | 17 => SP.eq (.bool false)
    | 18 => SP.eq (.bool false)
    | 19 => SP.eq (.slice (some ⟨b2, o2, none⟩) (L + 1) ac)
    | 20 => SP.eq (.int .i64 (L : Nat))
    | 21 => SP.eq (.pointer (some ⟨b2, o2 + L * 2, none⟩))
    | 22 => SP.eq (.agg #[.string x.name, .string x.key])
    | 23 => SP.eq (.agg #[.string x.name, .string x.key, .int .i64 x.kind, .int .u64 x.num, .string x.text, .slice Kx x.kids.length kcx])
    | 24 => SP.eq (.agg #[.string x.name, .string x.key])
    | 25 => SP.eq (.bool false)
    | 26 => SP.eq (.bool false)
    | _ => SP.any) 11 (by kernel_rfl) 80 rfl (by kernel_rfl) ?_ ?_
  · skip
    refine ⟨?_, ?_, ?_, ?_, ?_, ?_, ?_, ?_, ?_, ?_, ?_, trivial⟩
    · intro act W2 hk
      refine Flow.does_intro rfl (fun Kq hK => ?_)
      have e8 : act.tmps[8]?.getD undef = .int .i64 (L : Nat) := hk.o 8 (by kernel_rfl)
      clear hk
      go_simp
      exact hK _ _ (Ext.refl _) (fun d hd => by cases hd; rfl)
    · intro act W2 hk
      refine Flow.does_intro rfl (fun Kq hK => ?_)
      have e16 : act.tmps[16]?.getD undef = .int .i64 (L : Nat) := hk.v 16 (by kernel_rfl)
      clear hk
      go_simp
      exact hK _ _ (Ext.refl _) (fun d hd => by cases hd; first | rfl | (simp [SP.eq]; omega))
    · intro act W2 hk
      refine Flow.does_intro rfl (fun Kq hK => ?_)
      have e17 : act.tmps[17]?.getD undef = .bool false := hk.v 17 (by kernel_rfl)
      clear hk
      go_simp
      exact hK _ _ (Ext.refl _) (fun d hd => by cases hd; rfl)
    · intro act W2 hk
      have eg : act.tmps[18]?.getD undef = .bool false := hk.v 18 (by kernel_rfl)
      refine Flow.does_intro (wanted_yes rfl rfl eg) (fun Kq hK => ?_)
      clear eg
      have e1 : act.tmps[1]?.getD undef = .slice (some ⟨b2, o2, none⟩) (L + 1) ac := hk.o 1 (by kernel_rfl)
      clear hk
      go_simp
      exact hK _ _ (Ext.refl _) (fun d hd => by cases hd; rfl)
    · intro act W2 hk
      have eg : act.tmps[18]?.getD undef = .bool false := hk.v 18 (by kernel_rfl)
      refine Flow.does_intro (wanted_yes rfl rfl eg) (fun Kq hK => ?_)
      clear eg
      have e8 : act.tmps[8]?.getD undef = .int .i64 (L : Nat) := hk.o 8 (by kernel_rfl)
      clear hk
      go_simp
      exact hK _ _ (Ext.refl _) (fun d hd => by cases hd; rfl)
    · intro act W2 hk
      have eg : act.tmps[18]?.getD undef = .bool false := hk.v 18 (by kernel_rfl)
      refine Flow.does_intro (wanted_yes rfl rfl eg) (fun Kq hK => ?_)
      clear eg
      have e19 : act.tmps[19]?.getD undef = .slice (some ⟨b2, o2, none⟩) (L + 1) ac := hk.v 19 (by kernel_rfl)
      have e20 : act.tmps[20]?.getD undef = .int .i64 (L : Nat) := hk.v 20 (by kernel_rfl)
      have hLi : (L : Int) < (L : Int) + 1 := by omega
      clear hk
      go_simp
      exact hK _ _ (Ext.refl _) (fun d hd => by cases hd; rfl)
    · intro act W2 hk
      have eg : act.tmps[18]?.getD undef = .bool false := hk.v 18 (by kernel_rfl)
      refine Flow.does_intro (wanted_yes rfl rfl eg) (fun Kq hK => ?_)
      clear eg
      have e21 : act.tmps[21]?.getD undef = .pointer (some ⟨b2, o2 + L * 2, none⟩) := hk.v 21 (by kernel_rfl)
      have g0 := Ext.cell ((Ext.drew W).trans hk.ext) ((kcy.out) 0 _ rfl)
      rw [Nat.add_zero] at g0
      have g1 := Ext.cell ((Ext.drew W).trans hk.ext) ((kcy.out) 1 _ rfl)
      clear hk
      go_simp
      exact hK _ _ (Ext.refl _) (fun d hd => by cases hd; rfl)
    · intro act W2 hk
      have eg : act.tmps[18]?.getD undef = .bool false := hk.v 18 (by kernel_rfl)
      refine Flow.does_intro (wanted_yes rfl rfl eg) (fun Kq hK => ?_)
      clear eg
      have e5 : act.tmps[5]?.getD undef = .pointer (some ⟨p + 1, 0, none⟩) := hk.o 5 (by kernel_rfl)
      have g := ((kX.out).ext ((Ext.drew W).trans hk.ext)).cell
      clear hk
      go_simp
      exact hK _ _ (Ext.refl _) (fun d hd => by cases hd; rfl)
    · intro act W2 hk
      have eg : act.tmps[18]?.getD undef = .bool false := hk.v 18 (by kernel_rfl)
      refine Flow.does_intro (wanted_yes rfl rfl eg) (fun Kq hK => ?_)
      clear eg
      have e23 : act.tmps[23]?.getD undef = .agg #[.string x.name, .string x.key, .int .i64 x.kind, .int .u64 x.num, .string x.text, .slice Kx x.kids.length kcx] := hk.v 23 (by kernel_rfl)
      clear hk
      go_simp
      refine Calls.mono (hs1.out _) ?_
      rintro e W3 ⟨rfl, hx⟩
      exact hK _ _ hx (fun d hd => by cases hd; rfl)
    · intro act W2 hk
      have eg : act.tmps[18]?.getD undef = .bool false := hk.v 18 (by kernel_rfl)
      refine Flow.does_intro (wanted_yes rfl rfl eg) (fun Kq hK => ?_)
      clear eg
      have e22 : act.tmps[22]?.getD undef = .agg #[.string x.name, .string x.key] := hk.v 22 (by kernel_rfl)
      have e24 : act.tmps[24]?.getD undef = .agg #[.string x.name, .string x.key] := hk.v 24 (by kernel_rfl)
      clear hk
      go_simp
      exact hK _ _ (Ext.refl _) (fun d hd => by cases hd; rfl)
    · intro act W2 hk
      refine Flow.does_intro rfl (fun Kq hK => ?_)
      have e18 : act.tmps[18]?.getD undef = .bool false := hk.v 18 (by kernel_rfl)
      have e25 : act.tmps[25]?.getD undef = .bool false := hk.v 25 (by kernel_rfl)
      clear hk
      go_simp
      exact hK _ _ (Ext.refl _) (fun d hd => by cases hd; rfl)
  · intro act W2 he
    have hxW2 := Hd.mk ((Ext.drew W).trans he.ext)
    obtain ⟨us, hA, hF⟩ := he.out [16, 17, 18, 19, 20, 21, 22, 23, 24, 25, 26] (by kernel_rfl)
    simp only [Flow.fillL, List.contains_cons, List.contains_nil, Nat.reduceBEq, Bool.or_false, Bool.false_or, Bool.or_true, Bool.true_or, ↓reduceIte, Nat.reduceAdd, Bool.false_eq_true] at hA
    subst hA
    have f26 : us 26 = .bool false := hF 26 (by simp)
    clear hF he
    rw [f26]
    clear f26
    refine (show wpList _ _ _ [] _ _ from ?_)
    replace kx := Hd.mk (kx.out.trans hxW2.out)
    replace kZ := Hd.mk (kZ.out.ext hxW2.out)
    replace kT := Hd.mk (kT.out.ext hxW2.out)
    replace kX := Hd.mk (kX.out.ext hxW2.out)
    clear hxW2 kcy hs1
    have gT := kT.out.cell
    go_wp2_with fail
    have kZ0 := kZ
    refine Calls.mono (own_clone _ t S W2 _ (Nat.le_refl _) (kr.out.ext kx.out)) ?_
    rintro e w3 ⟨_, rfl, c1, rfl, hr1, hx⟩
    obtain ⟨K1, kc1, _, _, rfl, _⟩ := hr1.row
    replace kx := Hd.mk (kx.out.trans hx)
    replace kZ := Hd.mk (kZ.out.ext hx)
    replace kT := Hd.mk (kT.out.ext hx)
    replace kX := Hd.mk (kX.out.ext hx)
    have hB := Hd.mk (show p + 1 + 1 < W2.heap.size from kZ0.out.lt)
    have hr1 := Hd.mk hr1
    have hsz3x := Hd.mk hx.size
    clear hx gT
    simp only [cT] at hr1 ⊢
    have gT := kT.out.cell
    have fT := kT.out.free
    go_wp2_with fail
    generalize hlo : W2.heap.size = lo at *
    generalize hhi : w3.heap.size = hi at *
    replace hlo := Hd.mk hlo
    replace hhi := Hd.mk hhi
    have hlohi := hsz3x
    have hu := ((((((Upd.setCell w3 ⟨p, 0, none⟩ (.string t.name)).trans (Upd.setCell _ ⟨p, 1, none⟩ (.string t.key))).trans (Upd.setCell _ ⟨p, 2, none⟩ (.int .i64 t.kind))).trans (Upd.setCell _ ⟨p, 3, none⟩ (.int .u64 t.num))).trans (Upd.setCell _ ⟨p, 4, none⟩ (.string t.text))).trans (Upd.setCell _ ⟨p, 5, none⟩ (.slice K1 t.kids.length kc1)))
    have kTn : Blk ((((((w3.setCell ⟨p, 0, none⟩ (.string t.name)).setCell ⟨p, 1, none⟩ (.string t.key)).setCell ⟨p, 2, none⟩ (.int .i64 t.kind)).setCell ⟨p, 3, none⟩ (.int .u64 t.num)).setCell ⟨p, 4, none⟩ (.string t.text)).setCell ⟨p, 5, none⟩ (.slice K1 t.kids.length kc1)) (p) [.string t.name, .string t.key, .int .i64 t.kind, .int .u64 t.num, .string t.text, .slice K1 t.kids.length kc1] 54 := ((((((kT.out.setCell 0 (.string t.name)).setCell 1 (.string t.key)).setCell 2 (.int .i64 t.kind)).setCell 3 (.int .u64 t.num)).setCell 4 (.string t.text)).setCell 5 (.slice K1 t.kids.length kc1))
    generalize ((((((w3.setCell ⟨p, 0, none⟩ (.string t.name)).setCell ⟨p, 1, none⟩ (.string t.key)).setCell ⟨p, 2, none⟩ (.int .i64 t.kind)).setCell ⟨p, 3, none⟩ (.int .u64 t.num)).setCell ⟨p, 4, none⟩ (.string t.text)).setCell ⟨p, 5, none⟩ (.slice K1 t.kids.length kc1)) = W4 at *
    replace kT := Hd.mk kTn
    clear kTn
    replace kZ := Hd.mk (hu.blk (by show p + 1 + 1 ≠ p; omega) kZ.out)
    replace kX := Hd.mk (hu.blk (by show p + 1 ≠ p; omega) kX.out)
    replace hr1 := Hd.mk (hr1.out.keep fun b hb => hu.block b (by have := hB.out; show b ≠ p; omega))
    replace kx := Hd.mk (show Ext w W4 from Below.trans kx.out (hu.below (by rw [hp.out]; exact Nat.le_refl _)))
    replace hu := Hd.mk hu
    have hsz4 := Hd.mk (show W4.heap.size = hi by rw [hu.out.size, hhi.out])
    have hsz4p := Hd.mk (show p + 1 + 1 < W4.heap.size by rw [hsz4.out]; exact Nat.lt_of_lt_of_le hB.out hlohi.out)
    clear hu gT fT
    have hat := tree_at t init _ S' W4 p 0 _ (some ⟨b2, o2, none⟩) ac hr1.out.rt (fun q v hq => by rw [Nat.zero_add, kT.out.cell]; exact hq) (kwi.out.ext kx.out)
    rw [hL.out] at hat
    refine Calls.mono hat ?_
    rintro e w5 ⟨hx, hres⟩
    clear hat
    have hx5 := Hd.mk hx
    replace kx := Hd.mk (kx.out.trans hx)
    have kT4 := kT
    replace kZ := Hd.mk (kZ.out.ext hx)
    replace kT := Hd.mk (kT.out.ext hx)
    replace kX := Hd.mk (kX.out.ext hx)
    clear hx
    rcases hres with ⟨hg, rfl⟩ | ⟨u, bu, ou, hg, rfl, hpth⟩
    · obtain rfl : r = (zeroT, 30) := by rw [← hr0.out, hg]
      clear hg kT4
      have gZ := kZ.out.cell
      have fZ := kZ.out.free
      clear kT kX hr1 hx5
      go_wp2_with fail
      have hu := Hd.mk ((((((Upd.setCell w5 ⟨p + 1 + 1, 0, none⟩ (.string ⟨#[]⟩)).trans (Upd.setCell _ ⟨p + 1 + 1, 1, none⟩ (.string ⟨#[]⟩))).trans (Upd.setCell _ ⟨p + 1 + 1, 2, none⟩ (.int .i64 0))).trans (Upd.setCell _ ⟨p + 1 + 1, 3, none⟩ (.int .u64 0))).trans (Upd.setCell _ ⟨p + 1 + 1, 4, none⟩ (.string ⟨#[]⟩))).trans (Upd.setCell _ ⟨p + 1 + 1, 5, none⟩ (.slice none 0 0)))
      exact ret_box2 rfl (p + 1 + 1) _ 54 _ ((((((kZ.out.setCell 0 (.string ⟨#[]⟩)).setCell 1 (.string ⟨#[]⟩)).setCell 2 (.int .i64 0)).setCell 3 (.int .u64 0)).setCell 4 (.string ⟨#[]⟩)).setCell 5 (.slice none 0 0)) rfl rfl Try.underlying54 rfl size54
        ⟨_, rfl, _, rfl, ot_zero _ _, Below.trans kx.out (hu.out.below (by rw [hp.out]; show p ≤ p + 1 + 1; omega))⟩
    · obtain ⟨Su, cu, f1, f2, f3, f4, f5, f6⟩ := focus init _ W4 p 0 t u _ bu ou hr1.out (fun b hb => by rw [hsz4.out]; exact hb.2) (fun h => by have := hB.out; have := h.1; omega) (fun q v hq => by rw [Nat.zero_add, kT4.out.cell]; exact hq) hg hpth
      obtain ⟨Ku, ku, css, Si, rfl, hrow⟩ := f1.row
      have hru := right_get init t u hriH.out hg
      have hsu := size_get init t u hg
      have hus := u.size_eq
      have hul := sizeL_len u.kids
      have hxs := size_pos x
      have hun : u.kids.length + 1 ≤ 1048576 := by have := hszH.out; omega
      rw [hg] at hr0
      simp only at hr0
      have hbl : bu < W4.heap.size := by rcases f5 with ⟨_, rfl, _⟩ | ⟨_, h, _⟩; exact kT4.out.lt; rw [hsz4.out]; exact h.2
      have hbne : bu ≠ p + 1 ∧ bu ≠ p + 1 + 1 := by have := hB.out; rcases f5 with ⟨_, rfl, _⟩ | ⟨_, h, _⟩; exact ⟨by omega, by omega⟩; exact ⟨by have := h.1; omega, by have := h.1; omega⟩
      have hSuP : ∀ b, Su b → lo ≤ b ∧ b < hi := fun b hb => f2 b hb
      have hblk : ∃ cs, Blk W4 bu cs 54 ∧ ou + 6 ≤ cs.length := by rcases f5 with ⟨_, rfl, rfl, _⟩ | ⟨_, _, h⟩; exact ⟨_, kT4.out, by simp⟩; exact h
      have hf4 := Hd.mk f4
      have hf5 := Hd.mk f5
      have hf6 := Hd.mk f6
      have hf1 := Hd.mk f1
      have hf3 := Hd.mk f3
      have hrow := Hd.mk hrow
      have hSuH := Hd.mk hSuP
      have hblkH := Hd.mk hblk
      have hsame := Hd.mk (show ∀ b, b < W4.heap.size → b ≠ p + 1 → w5.heap[b]? = W4.heap[b]? from fun b hb _ => hx5.out.block b hb)
      obtain ⟨e0, e1, e2, e3, e4, e5⟩ := six hx5.out f4
      have lt1 := World.block_lt_of_cell? w5 _ e0
      have hleaf := Hd.mk (fun W => tree_leaf u Ku u.kids.length ku W)
      have hx5s := Hd.mk hx5.out.size
      clear f1 f2 f3 f4 f5 f6 hSuP hblk hg hpth hx5 hsu hus hul hxs
      simp only [cT] at hleaf
      go_wp2_with fail
      refine Calls.mono (hleaf.out _) ?_
      rintro e w6 ⟨rfl, hx⟩
      replace kx := Hd.mk (kx.out.trans hx)
      replace kZ := Hd.mk (kZ.out.ext hx)
      replace kT := Hd.mk (kT.out.ext hx)
      replace kX := Hd.mk (kX.out.ext hx)
      have hs5 := hx5s
      replace hsame := Hd.mk (show ∀ b, b < W4.heap.size → b ≠ p + 1 → w6.heap[b]? = W4.heap[b]? from fun b hb h1 => (hx.block b (Nat.lt_of_lt_of_le hb hs5.out)).trans (hsame.out b hb h1))
      replace hs5 := Hd.mk (Nat.le_trans hs5.out hx.size)
      clear hx hleaf e0 e1 e2 e3 e4 e5 lt1
      by_cases hk : u.kind = 0
      · rw [show (u.kind != 0) = false by simp [hk]]
        rw [if_neg (by simp [hk])] at hr0
        have hsrt := Hd.mk ((right_box hk).1 hru).2.2.2
        clear hk hru
        have gX := kX.out.cell
        go_wp2_with fail
        refine Calls.mono (own_clone _ x Sx w6 _ (Nat.le_refl _) (krx.out.ext kx.out)) ?_
        rintro e w7 ⟨_, rfl, cx1, rfl, hrx, hx⟩
        obtain ⟨Kx1, kx1, _, _, rfl, _⟩ := hrx.row
        replace kx := Hd.mk (kx.out.trans hx)
        replace kZ := Hd.mk (kZ.out.ext hx)
        replace kT := Hd.mk (kT.out.ext hx)
        replace kX := Hd.mk (kX.out.ext hx)
        replace hsame := Hd.mk (show ∀ b, b < W4.heap.size → b ≠ p + 1 → w7.heap[b]? = W4.heap[b]? from fun b hb h1 => (hx.block b (Nat.lt_of_lt_of_le hb hs5.out)).trans (hsame.out b hb h1))
        have hrx := Hd.mk hrx
        have hs67 := hx.size
        generalize hlx : w6.heap.size = lx at *
        generalize hhx : w7.heap.size = hX at *
        replace hlx := Hd.mk hlx
        replace hhx := Hd.mk hhx
        replace hs67 := Hd.mk hs67
        clear hx gX
        simp only [cT] at hrx ⊢
        have gX := kX.out.cell
        have fX := kX.out.free
        go_wp2_with fail
        have hu := ((((((Upd.setCell w7 ⟨p + 1, 0, none⟩ (.string x.name)).trans (Upd.setCell _ ⟨p + 1, 1, none⟩ (.string x.key))).trans (Upd.setCell _ ⟨p + 1, 2, none⟩ (.int .i64 x.kind))).trans (Upd.setCell _ ⟨p + 1, 3, none⟩ (.int .u64 x.num))).trans (Upd.setCell _ ⟨p + 1, 4, none⟩ (.string x.text))).trans (Upd.setCell _ ⟨p + 1, 5, none⟩ (.slice Kx1 x.kids.length kx1)))
        have kXn : Blk ((((((w7.setCell ⟨p + 1, 0, none⟩ (.string x.name)).setCell ⟨p + 1, 1, none⟩ (.string x.key)).setCell ⟨p + 1, 2, none⟩ (.int .i64 x.kind)).setCell ⟨p + 1, 3, none⟩ (.int .u64 x.num)).setCell ⟨p + 1, 4, none⟩ (.string x.text)).setCell ⟨p + 1, 5, none⟩ (.slice Kx1 x.kids.length kx1)) (p + 1) [.string x.name, .string x.key, .int .i64 x.kind, .int .u64 x.num, .string x.text, .slice Kx1 x.kids.length kx1] 54 := ((((((kX.out.setCell 0 (.string x.name)).setCell 1 (.string x.key)).setCell 2 (.int .i64 x.kind)).setCell 3 (.int .u64 x.num)).setCell 4 (.string x.text)).setCell 5 (.slice Kx1 x.kids.length kx1))
        generalize ((((((w7.setCell ⟨p + 1, 0, none⟩ (.string x.name)).setCell ⟨p + 1, 1, none⟩ (.string x.key)).setCell ⟨p + 1, 2, none⟩ (.int .i64 x.kind)).setCell ⟨p + 1, 3, none⟩ (.int .u64 x.num)).setCell ⟨p + 1, 4, none⟩ (.string x.text)).setCell ⟨p + 1, 5, none⟩ (.slice Kx1 x.kids.length kx1)) = W8 at *
        replace kX := Hd.mk kXn
        clear kXn
        replace kZ := Hd.mk (hu.blk (by show p + 1 + 1 ≠ p + 1; omega) kZ.out)
        replace kT := Hd.mk (hu.blk (by show p ≠ p + 1; omega) kT.out)
        replace hrx := Hd.mk (hrx.out.keep fun b hb => hu.block b (by have := hB.out; have := hs5.out; have := hsz4.out; have := hlohi.out; show b ≠ p + 1; omega))
        replace hsame := Hd.mk (show ∀ b, b < W4.heap.size → b ≠ p + 1 → W8.heap[b]? = W4.heap[b]? from fun b hb h1 => (hu.block b h1).trans (hsame.out b hb h1))
        replace kx := Hd.mk (show Ext w W8 from Below.trans kx.out (hu.below (by rw [hp.out]; show p ≤ p + 1; omega)))
        replace hu := Hd.mk hu
        have hs8 := Hd.mk (show W8.heap.size = hX by rw [hu.out.size, hhx.out])
        clear hu gX fX
        refine Calls.mono (tree_step x Kx1 x.kids.length kx1 W8) ?_
        rintro e w9 ⟨rfl, hx⟩
        have hW4 := Hd.mk (show W4.heap.size ≤ hX from Nat.le_trans hs5.out hs67.out)
        replace kx := Hd.mk (kx.out.trans hx)
        replace kZ := Hd.mk (kZ.out.ext hx)
        replace kT := Hd.mk (kT.out.ext hx)
        replace kX := Hd.mk (kX.out.ext hx)
        replace hsame := Hd.mk (show ∀ b, b < W4.heap.size → b ≠ p + 1 → w9.heap[b]? = W4.heap[b]? from fun b hb h1 => (hx.block b (by rw [hs8.out]; exact Nat.lt_of_lt_of_le hb hW4.out)).trans (hsame.out b hb h1))
        replace hrx := Hd.mk (hrx.out.ext (fun b hb => by rw [hs8.out]; exact hb.2) hx)
        have hs9 := Hd.mk (show hX ≤ w9.heap.size from hs8.out ▸ hx.size)
        clear hx
        have hf := Hd.mk (tree_find u (stepT x) Su w9 bu ou _ (OT.rt (hf1.out.keep fun b hb => hsame.out b (by have := hSuH.out b hb; rw [hsz4.out]; exact this.2) (by have := hSuH.out b hb; have := hB.out; omega))) (cells_same (hsame.out bu hbl hbne.1) hf4.out))
        go_wp2_with fail
        refine Calls.mono hf.out ?_
        rintro e w10 ⟨rfl, hx⟩
        replace kx := Hd.mk (kx.out.trans hx)
        replace kZ := Hd.mk (kZ.out.ext hx)
        replace kT := Hd.mk (kT.out.ext hx)
        replace kX := Hd.mk (kX.out.ext hx)
        replace hsame := Hd.mk (show ∀ b, b < W4.heap.size → b ≠ p + 1 → w10.heap[b]? = W4.heap[b]? from fun b hb h1 => (hx.block b (Nat.lt_of_lt_of_le hb (Nat.le_trans hW4.out hs9.out))).trans (hsame.out b hb h1))
        replace hrx := Hd.mk (hrx.out.ext (fun b hb => Nat.lt_of_lt_of_le hb.2 hs9.out) hx)
        replace hs9 := Hd.mk (Nat.le_trans hs9.out hx.size)
        clear hx hf
        have hcu := Hd.mk (cells_same (hsame.out bu hbl hbne.1) hf4.out)
        rcases findT_kid u.kids (stepT x) with ⟨hfn, hkn⟩ | ⟨i, k0, hfi, hki, hks, hrep, _⟩
        · rw [hfn]
          have hrr := Hd.mk (show RRow Su w10 Ku u.kids ku from hrow.out.rrow.keep fun b off v hb hc => ⟨hb, by rw [← hc]; exact World.cell?_of_block (hsame.out b (by have := hSuH.out b hb; rw [hsz4.out]; exact this.2) (by have := hSuH.out b hb; have := hB.out; omega))⟩)
          have hown := Hd.mk (own_keep (w' := w10) hrow.out.own (fun y hy => by have h1 := (hrow.out.g y hy).1; have h2 := hSuH.out y h1; have := hB.out; exact hsame.out y (by rw [hsz4.out]; exact h2.2) (by omega)))
          have hrowlt := Hd.mk (show ∀ y, (Value.slice Ku u.kids.length ku).ownBlock = some y → y < W4.heap.size ∧ y ≠ p ∧ y ≠ p + 1 ∧ y ≠ p + 1 + 1 ∧ bu ≠ y from fun y hy => by
            have h1 := (hrow.out.g y hy).1
            have h2 := hSuH.out y h1
            have := hB.out
            exact ⟨by rw [hsz4.out]; exact h2.2, by omega, by omega, by omega, fun e => hf3.out (e ▸ h1)⟩)
          have hsr := Hd.mk (fun W (h : Ext w10 W) => nodes_search u.kids x Su W Ku ku Kx1 kx1 hsrt.out (hrr.out.ext h))
          have hone := Hd.mk (all_one hrow.out.hl (fun i k c h1 h2 => ((hrow.out.each i k c h1 h2).rt.mono fun b _ hb => hrow.out.sub i b hb)))
          have hfl6 := Hd.mk (flatten_take css hrow.out.h6)
          obtain ⟨e0, e1, e2, e3, e4, e5⟩ := six (Ext.refl w10) hcu.out
          have lt1 := World.block_lt_of_cell? w10 _ e0
          have gX := kX.out.cell
          have hknH := Hd.mk hkn
          clear hfn hkn hrr
          go_wp2_with fail
          clear gX e0 e1 e2 e3 e4 e5 lt1
          refine Flow.wp_region_flow_l (fun qq => match qq with
            | 60 => SP.eq (.pointer (some ⟨bu, ou, none⟩))
            | 61 => SP.eq (.pointer (some ⟨bu, ou, none⟩))
            | 62 => SP.eq (.pointer (some ⟨bu, ou + 5, none⟩))
            | 63 => SP.eq (.slice Ku u.kids.length ku)
            | 64 => SP.eq (.agg #[.string x.name, .string x.key, .int .i64 x.kind, .int .u64 x.num, .string x.text, .slice Kx1 x.kids.length kx1])
            | 65 => spSrch u.kids x
            | 59 => spSrch u.kids x
            | 66 => spStand u.kids x
            | 67 => SP.any
            | 11 => spStand u.kids x
            | 12 => SP.any
            | _ => SP.any) 11 (by kernel_rfl) 80 rfl (by kernel_rfl) ?_ ?_
          · skip
            refine ⟨?_, ?_, ?_, ?_, ?_, ?_, ?_, ?_, ?_, ?_, ?_, trivial⟩
            · intro act W2 hk
              refine Flow.does_intro rfl (fun Kq hK => ?_)
              have e9 : act.tmps[9]?.getD undef = .pointer (some ⟨bu, ou, none⟩) := hk.o 9 (by kernel_rfl)
              clear hk
              go_simp
              exact hK _ _ (Ext.refl _) (fun d hd => by cases hd; rfl)
            · intro act W2 hk
              refine Flow.does_intro rfl (fun Kq hK => ?_)
              have e60 : act.tmps[60]?.getD undef = .pointer (some ⟨bu, ou, none⟩) := hk.v 60 (by kernel_rfl)
              clear hk
              go_simp
              exact hK _ _ (Ext.refl _) (fun d hd => by cases hd; rfl)
            · intro act W2 hk
              refine Flow.does_intro rfl (fun Kq hK => ?_)
              have e61 : act.tmps[61]?.getD undef = .pointer (some ⟨bu, ou, none⟩) := hk.v 61 (by kernel_rfl)
              clear hk
              go_simp
              exact hK _ _ (Ext.refl _) (fun d hd => by cases hd; rfl)
            · intro act W2 hk
              refine Flow.does_intro rfl (fun Kq hK => ?_)
              have e62 : act.tmps[62]?.getD undef = .pointer (some ⟨bu, ou + 5, none⟩) := hk.v 62 (by kernel_rfl)
              have g5 := Ext.cell ((Ext.drew w10).trans hk.ext) ((hcu.out) 5 _ rfl)
              clear hk
              go_simp
              exact hK _ _ (Ext.refl _) (fun d hd => by cases hd; rfl)
            · intro act W2 hk
              refine Flow.does_intro rfl (fun Kq hK => ?_)
              have e5 : act.tmps[5]?.getD undef = .pointer (some ⟨p + 1, 0, none⟩) := hk.o 5 (by kernel_rfl)
              have g := ((kX.out).ext ((Ext.drew w10).trans hk.ext)).cell
              clear hk
              go_simp
              exact hK _ _ (Ext.refl _) (fun d hd => by cases hd; rfl)
            · intro act W2 hk
              refine Flow.does_intro rfl (fun Kq hK => ?_)
              have e63 : act.tmps[63]?.getD undef = .slice Ku u.kids.length ku := hk.v 63 (by kernel_rfl)
              have e64 : act.tmps[64]?.getD undef = .agg #[.string x.name, .string x.key, .int .i64 x.kind, .int .u64 x.num, .string x.text, .slice Kx1 x.kids.length kx1] := hk.v 64 (by kernel_rfl)
              have hx0 := Hd.mk ((Ext.drew w10).trans hk.ext)
              clear hk
              go_simp
              refine Calls.mono (hsr.out _ hx0.out) ?_
              rintro e W3 ⟨i, b, rfl, hst, hx⟩
              exact hK _ _ hx (fun d hd => by cases hd; exact ⟨i, b, rfl, hst⟩)
            · intro act W2 hk
              refine Flow.does_intro rfl (fun Kq hK => ?_)
              have e65 : (spSrch u.kids x).p (act.tmps[65]?.getD undef) W2 := hk.v 65 (by kernel_rfl)
              have e65 : (spSrch u.kids x).p (act.tmps[65]?.getD undef) W2 := hk.v 65 (by kernel_rfl)
              clear hk
              go_simp
              exact hK _ _ (Ext.refl _) (fun d hd => by cases hd; exact e65)
            · intro act W2 hk
              refine Flow.does_intro rfl (fun Kq hK => ?_)
              obtain ⟨i, b, e59, hst⟩ := (hk.v 59 (by kernel_rfl) : (spSrch _ _).p _ _)
              clear hk
              go_simp
              exact hK _ _ (Ext.refl _) (fun d hd => by cases hd; exact ⟨i, rfl, hst⟩)
            · intro act W2 hk
              refine Flow.does_intro rfl (fun Kq hK => ?_)
              obtain ⟨i, b, e59, hst⟩ := (hk.v 59 (by kernel_rfl) : (spSrch _ _).p _ _)
              clear hk
              go_simp
              exact hK _ _ (Ext.refl _) (fun d hd => by cases hd; trivial)
            · intro act W2 hk
              refine Flow.does_intro rfl (fun Kq hK => ?_)
              have e66 : (spStand u.kids x).p (act.tmps[66]?.getD undef) W2 := hk.v 66 (by kernel_rfl)
              have e66 : (spStand u.kids x).p (act.tmps[66]?.getD undef) W2 := hk.v 66 (by kernel_rfl)
              clear hk
              go_simp
              exact hK _ _ (Ext.refl _) (fun d hd => by cases hd; exact e66)
            · intro act W2 hk
              refine Flow.does_intro rfl (fun Kq hK => ?_)
              have e67 : (SP.any).p (act.tmps[67]?.getD undef) W2 := hk.v 67 (by kernel_rfl)
              have e67 : (SP.any).p (act.tmps[67]?.getD undef) W2 := hk.v 67 (by kernel_rfl)
              clear hk
              go_simp
              exact hK _ _ (Ext.refl _) (fun d hd => by cases hd; exact e67)
          · intro act V1 he
            have hxV1 := Hd.mk ((Ext.drew w10).trans he.ext)
            obtain ⟨us, hA, hF⟩ := he.out [60, 61, 62, 63, 64, 65, 59, 66, 67, 11, 12] (by kernel_rfl)
            simp only [Flow.fillL, List.contains_cons, List.contains_nil, Nat.reduceBEq, Bool.or_false, Bool.false_or, Bool.or_true, Bool.true_or, ↓reduceIte, Nat.reduceAdd, Bool.false_eq_true] at hA
            subst hA
            have f11 : (spStand u.kids x).p (us 11) V1 := hF 11 (by simp)
            clear hF he
            obtain ⟨i, ei, hst⟩ := (f11 : (spStand _ _).p _ _)
            rw [ei]
            clear ei
            replace hst := Hd.mk hst
            refine (show wpList _ _ _ [] _ _ from ?_)
            replace kx := Hd.mk (kx.out.trans hxV1.out)
            replace kZ := Hd.mk (kZ.out.ext hxV1.out)
            replace kT := Hd.mk (kT.out.ext hxV1.out)
            replace kX := Hd.mk (kX.out.ext hxV1.out)
            replace hsame := Hd.mk (show ∀ b, b < W4.heap.size → b ≠ p + 1 → V1.heap[b]? = W4.heap[b]? from fun b hb h1 => (hxV1.out.block b (Nat.lt_of_lt_of_le hb (Nat.le_trans hW4.out hs9.out))).trans (hsame.out b hb h1))
            replace hrx := Hd.mk (hrx.out.ext (fun b hb => Nat.lt_of_lt_of_le hb.2 hs9.out) hxV1.out)
            replace hs9 := Hd.mk (Nat.le_trans hs9.out hxV1.out.size)
            replace hown := Hd.mk (own_ext hxV1.out hown.out)
            have hVb := Hd.mk (show W4.heap.size ≤ V1.heap.size from Nat.le_trans hW4.out hs9.out)
            replace hcu := Hd.mk (cells_same (hsame.out bu hbl hbne.1) hf4.out)
            clear hxV1 hsr
            go_wp2_with fail
            refine FlowS.wp_region_flow_l (R := fun a b => a.grownBy b (Value.slice Ku u.kids.length ku).ownBlock) 8 (fun _ _ h => grown_ext h) (fun h k => grown_trans h k) (fun qq => match qq with
              | 68 => SP.eq (.pointer (some ⟨bu, ou, none⟩))
              | 69 => SP.eq (.pointer (some ⟨bu, ou, none⟩))
              | 70 => SP.eq (.pointer (some ⟨bu, ou, none⟩))
              | 71 => SP.eq (.pointer (some ⟨bu, ou + 5, none⟩))
              | 72 => SP.eq (.slice Ku u.kids.length ku)
              | 73 => SP.eq (.int .i64 (i : Nat))
              | 74 => SP.eq (.agg #[.string x.name, .string x.key, .int .i64 x.kind, .int .u64 x.num, .string x.text, .slice Kx1 x.kids.length kx1])
              | 75 => spNewRow [.string x.name, .string x.key, .int .i64 x.kind, .int .u64 x.num, .string x.text, .slice Kx1 x.kids.length kx1] V1.heap.size
              | 76 => spIns (Value.slice Ku u.kids.length ku).ownBlock (u.kids.length + 1) V1.heap.size (css.flatten.take (i * 6) ++ [.string x.name, .string x.key, .int .i64 x.kind, .int .u64 x.num, .string x.text, .slice Kx1 x.kids.length kx1] ++ css.flatten.drop (i * 6))
              | 77 => SP.eq (.pointer (some ⟨bu, ou, none⟩))
              | 78 => SP.eq (.pointer (some ⟨bu, ou + 5, none⟩))
              | _ => SP.any) 11 (by kernel_rfl) 80 rfl (by kernel_rfl) (of_decide_eq_true (by kernel_rfl)) ?_ ?_ ?_
            · intro q hq u v1 v2 hR
              split
              all_goals first | exact fun h => h | exact fun _ => absurd rfl hq | skip
              rintro ⟨D, e, hb, h2⟩
              exact ⟨D, e, grownBy_blk' hR (fun h => by have h1 := (hrowlt.out D h.symm).1; have := hVb.out; omega) hb, h2⟩
            · skip
              refine ⟨?_, ?_, ?_, ?_, ?_, ?_, ?_, ?_, ?_, ?_, ?_, trivial⟩
              · intro act W2 hk
                refine FlowS.does_intro rfl (fun Kq hK => ?_)
                have e9 : act.tmps[9]?.getD undef = .pointer (some ⟨bu, ou, none⟩) := hk.o 9 (by kernel_rfl)
                clear hk
                go_simp
                exact hK _ _ (Ext.refl _) (fun d hd => by cases hd; rfl)
              · intro act W2 hk
                refine FlowS.does_intro rfl (fun Kq hK => ?_)
                have e9 : act.tmps[9]?.getD undef = .pointer (some ⟨bu, ou, none⟩) := hk.o 9 (by kernel_rfl)
                clear hk
                go_simp
                exact hK _ _ (Ext.refl _) (fun d hd => by cases hd; rfl)
              · intro act W2 hk
                refine FlowS.does_intro rfl (fun Kq hK => ?_)
                have e69 : act.tmps[69]?.getD undef = .pointer (some ⟨bu, ou, none⟩) := hk.v 69 (by kernel_rfl)
                clear hk
                go_simp
                exact hK _ _ (Ext.refl _) (fun d hd => by cases hd; rfl)
              · intro act W2 hk
                refine FlowS.does_intro rfl (fun Kq hK => ?_)
                have e70 : act.tmps[70]?.getD undef = .pointer (some ⟨bu, ou, none⟩) := hk.v 70 (by kernel_rfl)
                clear hk
                go_simp
                exact hK _ _ (Ext.refl _) (fun d hd => by cases hd; rfl)
              · intro act W2 hk
                refine FlowS.does_intro rfl (fun Kq hK => ?_)
                have e71 : act.tmps[71]?.getD undef = .pointer (some ⟨bu, ou + 5, none⟩) := hk.v 71 (by kernel_rfl)
                have g5 := Ext.cell ((Ext.drew V1).trans (hk.early (.inr (by kernel_rfl)))) ((hcu.out) 5 _ rfl)
                clear hk
                go_simp
                exact hK _ _ (Ext.refl _) (fun d hd => by cases hd; rfl)
              · intro act W2 hk
                refine FlowS.does_intro rfl (fun Kq hK => ?_)
                have e11 : act.tmps[11]?.getD undef = .int .i64 (i : Nat) := hk.o 11 (by kernel_rfl)
                clear hk
                go_simp
                exact hK _ _ (Ext.refl _) (fun d hd => by cases hd; rfl)
              · intro act W2 hk
                refine FlowS.does_intro rfl (fun Kq hK => ?_)
                have e5 : act.tmps[5]?.getD undef = .pointer (some ⟨p + 1, 0, none⟩) := hk.o 5 (by kernel_rfl)
                have g := ((kX.out).ext ((Ext.drew V1).trans (hk.early (.inr (by kernel_rfl))))).cell
                clear hk
                go_simp
                exact hK _ _ (Ext.refl _) (fun d hd => by cases hd; rfl)
              · intro act W2 hk
                refine FlowS.does_intro rfl (fun Kq hK => ?_)
                have e74 : act.tmps[74]?.getD undef = .agg #[.string x.name, .string x.key, .int .i64 x.kind, .int .u64 x.num, .string x.text, .slice Kx1 x.kids.length kx1] := hk.v 74 (by kernel_rfl)
                have hx0 := Hd.mk (hk.early (.inr (by kernel_rfl)))
                clear hk
                go_simp
                exact hK _ _ (Ext.alloc _ _) (fun d hd => by cases hd; exact ⟨_, rfl, Blk.new _ _ _, ((Ext.drew V1).trans hx0.out).size⟩)
              · intro act W2 hk
                refine FlowS.does_intro rfl (fun Kq hK => ?_)
                have e72 : act.tmps[72]?.getD undef = .slice Ku u.kids.length ku := hk.v 72 (by kernel_rfl)
                have e73 : act.tmps[73]?.getD undef = .int .i64 (i : Nat) := hk.v 73 (by kernel_rfl)
                obtain ⟨D, e75, hD, hDn⟩ := (hk.v 75 (by kernel_rfl) : (spNewRow _ _).p _ _)
                have hx0 := Hd.mk ((Ext.drew V1).trans (hk.early (.inl rfl)))
                clear hk
                go_simp
                refine Calls.mono (slices_insert (own_ext hx0.out hown.out) hst.out.1 hun hD (fun e => by have h1 := (hrowlt.out D e).1; have := hVb.out; omega) rfl rfl hone.out) ?_
                rintro e W3 ⟨K2, kc2, rfl, hown2, hx, hat2⟩
                exact hK _ _ (by have h9 := hx; rw [own_any_n (n' := u.kids.length) (c' := ku)] at h9; exact h9) (fun d hd => by cases hd; exact ⟨K2, kc2, rfl, hown2, insert_at hx0.out.size hat2⟩)
              · intro act W2 hk
                refine FlowS.does_intro rfl (fun Kq hK => ?_)
                have e68 : act.tmps[68]?.getD undef = .pointer (some ⟨bu, ou, none⟩) := hk.v 68 (by kernel_rfl)
                clear hk
                go_simp
                exact hK _ _ (Ext.refl _) (fun d hd => by cases hd; rfl)
              · intro act W2 hk
                refine FlowS.does_intro rfl (fun Kq hK => ?_)
                have e77 : act.tmps[77]?.getD undef = .pointer (some ⟨bu, ou, none⟩) := hk.v 77 (by kernel_rfl)
                clear hk
                go_simp
                exact hK _ _ (Ext.refl _) (fun d hd => by cases hd; rfl)
            · intro act V2 he
              have hxV := Hd.mk (grown_trans (grown_ext (Ext.drew V1)) he.ext)
              obtain ⟨us, hA, hF⟩ := he.out [68, 69, 70, 71, 72, 73, 74, 75, 76, 77, 78] (by kernel_rfl)
              simp only [Flow.fillL, List.contains_cons, List.contains_nil, Nat.reduceBEq, Bool.or_false, Bool.false_or, Bool.or_true, Bool.true_or, ↓reduceIte, Nat.reduceAdd, Bool.false_eq_true] at hA
              subst hA
              have f76 : (spIns (Value.slice Ku u.kids.length ku).ownBlock (u.kids.length + 1) V1.heap.size (css.flatten.take (i * 6) ++ [.string x.name, .string x.key, .int .i64 x.kind, .int .u64 x.num, .string x.text, .slice Kx1 x.kids.length kx1] ++ css.flatten.drop (i * 6))).p (us 76) V2 := hF 76 (by simp)
              have f78 : us 78 = .pointer (some ⟨bu, ou + 5, none⟩) := hF 78 (by simp)
              clear hF he
              rw [f78]
              clear f78
              have hgr := hxV.out
              clear hxV
              obtain ⟨K2, kc2, e76, hown2, hat2⟩ := (f76 : (spIns _ _ _ _).p _ _)
              rw [e76] at hown2 hat2 ⊢
              clear e76
              obtain ⟨cs, hcs, hou⟩ := hblkH.out
              have hne1 : some bu ≠ (Value.slice Ku u.kids.length ku).ownBlock := fun e => (hrowlt.out bu e.symm).2.2.2.2 rfl
              have kb := Hd.mk (show Blk V2 bu cs 54 from (hgr.block bu (Nat.lt_of_lt_of_le hbl hVb.out) hne1).trans ((hsame.out bu hbl hbne.1).trans hcs))
              obtain ⟨z0, z5⟩ := cell_some kb.out (i := ou + 5) (by omega)
              have fb := kb.out.free
              refine (show wpList _ _ _ (⟨none, .store 52 (.tmp 78) (.tmp 76), _, _, _, none⟩ :: []) _ _ from ?_)
              go_wp2_with ((with_reducible refine stop_at (.load 54 (.tmp 3)) ?_))
              refine Stop.mk ?_
              have hu := Upd.setCell V2 ⟨bu, ou + 5, none⟩ (.slice K2 (u.kids.length + 1) kc2)
              have kb2 := kb.out.setCell (ou + 5) (.slice K2 (u.kids.length + 1) kc2)
              generalize V2.setCell _ _ = W11 at *
              have hub : ∀ k, k ≠ bu → W11.heap[k]? = V2.heap[k]? := fun k hk => hu.block k hk
              have hsm : ∀ b, b < W4.heap.size → b ≠ p + 1 → b ≠ bu → some b ≠ (Value.slice Ku u.kids.length ku).ownBlock → W11.heap[b]? = W4.heap[b]? := fun b hb h1 h2 h3 => (hub b h2).trans ((hgr.block b (Nat.lt_of_lt_of_le hb hVb.out) h3).trans (hsame.out b hb h1))
              have hrx2 : OT (fun b => lx ≤ b ∧ b < hX) W11 x [.string x.name, .string x.key, .int .i64 x.kind, .int .u64 x.num, .string x.text, .slice Kx1 x.kids.length kx1] := hrx.out.keep fun b hb => (hub b (fun e => by subst e; have := hs5.out; have := hb.1; omega)).trans (hgr.block b (Nat.lt_of_lt_of_le hb.2 hs9.out) (fun e => by have h1 := (hrowlt.out b e.symm).1; have := hs5.out; have := hb.1; omega))
              have hK2 : ∀ y, (Value.slice K2 (u.kids.length + 1) kc2).ownBlock = some y → (Value.slice Ku u.kids.length ku).ownBlock = some y ∨ V1.heap.size ≤ y := fun y hy => by
                rcases hat2 with h | ⟨g, h, h2⟩
                · exact .inl (h ▸ hy)
                · rw [h] at hy; cases hy; exact .inr h2
              have hown3 := own_keep (w' := W11) hown2 (fun y hy => hub y (fun e => by
                subst e
                rcases hK2 y hy with h | h
                · exact hne1 h.symm
                · have := hVb.out; omega))
              have hil := hst.out.1
              have hl1 : (u.kids.take i ++ x :: u.kids.drop i).length = u.kids.length + 1 := by simp; omega
              have hl2 : (css.take i ++ [.string x.name, .string x.key, .int .i64 x.kind, .int .u64 x.num, .string x.text, .slice Kx1 x.kids.length kx1] :: css.drop i).length = u.kids.length + 1 := by have := hrow.out.hl; simp; omega
              have hfe : (css.take i ++ [.string x.name, .string x.key, .int .i64 x.kind, .int .u64 x.num, .string x.text, .slice Kx1 x.kids.length kx1] :: css.drop i).flatten = (css.flatten.take (i * 6) ++ [.string x.name, .string x.key, .int .i64 x.kind, .int .u64 x.num, .string x.text, .slice Kx1 x.kids.length kx1] ++ css.flatten.drop (i * 6)) := by rw [List.flatten_append, List.flatten_cons, (hfl6.out i).1, (hfl6.out i).2, List.append_assoc]
              have hOR := hrow.out.perm (N := W4.heap.size) (w' := W11) (K' := K2) (kc' := kc2) (kids' := (u.kids.take i ++ x :: u.kids.drop i)) (css' := css.take i ++ [.string x.name, .string x.key, .int .i64 x.kind, .int .u64 x.num, .string x.text, .slice Kx1 x.kids.length kx1] :: css.drop i) (fun b hb => by have := hSuH.out b hb; rw [hsz4.out]; exact this.2) (insF i) (fun _ => hrx2) (fun b hb => Nat.le_trans hs5.out hb.1) (by rw [hl1, hl2]) (by rw [hl1]; exact hun) (fun j k c hj hc => by
                rcases insF_get hil hj with ⟨q, h1, h2⟩ | ⟨h1, h2⟩
                · rcases insF_get (by rw [hrow.out.hl]; exact hil) hc with ⟨q2, h3, h4⟩ | ⟨h3, _⟩
                  · rw [h1] at h3; cases h3; exact .inl ⟨q, h1, h2, h4⟩
                  · rw [h1] at h3; cases h3
                · rcases insF_get (by rw [hrow.out.hl]; exact hil) hc with ⟨q2, h3, _⟩ | ⟨_, h4⟩
                  · rw [h1] at h3; cases h3
                  · exact .inr ⟨h1, h2, h4⟩) (insF_inj i) (by rw [hl1, hfe]; exact hown3) (fun j b hb => by
                have h1 := hSuH.out b (hrow.out.sub j b hb)
                exact hsm b (by rw [hsz4.out]; exact h1.2) (by have := hB.out; omega) (fun e => hf3.out (e ▸ hrow.out.sub j b hb)) (fun e => (hrow.out.g b e.symm).2 j hb)) (fun g hg => by
                rw [hl1] at hg
                rcases hK2 g hg with h | h
                · exact .inl h
                · have := hVb.out; have := hs9.out; exact .inr ⟨by omega, fun hh => by omega⟩)
              have hOT : OT (fun b => Su b ∨ W4.heap.size ≤ b) W11 (u.wk (u.kids.take i ++ x :: u.kids.drop i)) (cT u.name u.key u.kind u.num u.text K2 (u.kids.take i ++ x :: u.kids.drop i).length kc2) := OT.of_row (t := u.wk (u.kids.take i ++ x :: u.kids.drop i)) hOR
              rw [hl1] at hOT
              obtain ⟨c', g1, g2, g3⟩ := hf6.out W11 _ _ _ (fun b hb h1 h2 => hsm b (by rw [hsz4.out]; exact hb.2) (by have := hB.out; have := hb.1; omega) h1 (fun e => h2 ((hrow.out.g b e.symm).1))) (fun _ cs0 hcs0 => by
                obtain rfl := hcs0.inj hcs
                refine ⟨_, kb2, by simp, fun q hq => List.getElem?_set_ne (by omega), fun q v hq => ?_⟩
                by_cases h5 : q = 5
                · subst h5
                  rw [List.getElem?_set_self (by omega)]
                  exact hq
                · rw [List.getElem?_set_ne (by omega), ← hcs0.cell]
                  refine hf4.out q v ?_
                  match q, h5, hq with
                  | 0, _, hq => exact hq
                  | 1, _, hq => exact hq
                  | 2, _, hq => exact hq
                  | 3, _, hq => exact hq
                  | 4, _, hq => exact hq
                  | 5, h5, _ => exact absurd rfl h5
                  | q + 6, _, hq => simp [cT] at hq) hOT (fun b hb => hb)
              have kTc : Blk W11 p c' 54 := by
                by_cases hi0 : init = []
                · rw [g2 hi0]
                  rcases hf5.out with ⟨_, h1, h2, h3⟩ | ⟨h, _⟩
                  · subst h1 h2
                    obtain rfl := hcs.inj kT4.out
                    rw [← h3] at kb2
                    exact kb2
                  · exact absurd hi0 h
                · rw [g3 hi0]
                  have hbS : bu ≠ p := fun e => by
                    rcases hf5.out with ⟨h, _⟩ | ⟨_, h, _⟩
                    · exact hi0 h
                    · have := h.1; have := hB.out; omega
                  refine (hub p (fun e => hbS e.symm)).trans ?_
                  exact grownBy_blk' hgr (fun e => (hrowlt.out p e.symm).2.1 rfl) kT.out
              obtain rfl : r = (putT t init (u.wk (u.kids.take i ++ x :: u.kids.drop i)), 0) := by rw [← hr0.out, setL, hknH.out, if_neg (by simp), ins_stands hst.out]
              generalize putT t init (u.wk (u.kids.take i ++ x :: u.kids.drop i)) = tn at *
              obtain ⟨K9, kc9, _, _, rfl, _⟩ := g1.row
              replace kZ := Hd.mk (show Blk W11 (p + 1 + 1) _ 54 from (hub (p + 1 + 1) (fun e => hbne.2 e.symm)).trans (grownBy_blk' hgr (fun e => (hrowlt.out _ e.symm).2.2.2.1 rfl) kZ.out))
              have hpbu : p ≤ bu := by rcases hf5.out with ⟨_, h, _⟩ | ⟨_, h, _⟩; omega; have := h.1; have := hB.out; omega
              replace kx := Hd.mk (show Ext w W11 from Below.trans (Below.grown kx.out hgr (by rw [hp.out]; have := hVb.out; have := hsz4p.out; omega) (fun k hk => by have h1 := (hrowlt.out k hk); have h2 := hSuH.out k (hrow.out.g k hk).1; have := hB.out; rw [hp.out]; omega)) (hu.below (by rw [hp.out]; exact hpbu)))
              have g1 := Hd.mk g1.lt
              have hW11 := Hd.mk (show W4.heap.size ≤ W11.heap.size by rw [hu.size]; exact Nat.le_trans hVb.out hgr.size)
              replace kT := Hd.mk kTc
              clear hown2 hown3 hOR hOT g2 g3 hrx2 hsm hub kb2 kb z5 fb hK2 hat2 hgr hcs hl1 hl2 hfe kTc
              simp only [cT] at kT g1
              have gT := kT.out.cell
              have gZ := kZ.out.cell
              have fZ := kZ.out.free
              go_wp2_with fail
              have hu2 := Hd.mk ((((((Upd.setCell W11 ⟨p + 1 + 1, 0, none⟩ (.string tn.name)).trans (Upd.setCell _ ⟨p + 1 + 1, 1, none⟩ (.string tn.key))).trans (Upd.setCell _ ⟨p + 1 + 1, 2, none⟩ (.int .i64 tn.kind))).trans (Upd.setCell _ ⟨p + 1 + 1, 3, none⟩ (.int .u64 tn.num))).trans (Upd.setCell _ ⟨p + 1 + 1, 4, none⟩ (.string tn.text))).trans (Upd.setCell _ ⟨p + 1 + 1, 5, none⟩ (.slice K9 tn.kids.length kc9)))
              exact ret_box2 rfl (p + 1 + 1) _ 54 _ ((((((kZ.out.setCell 0 (.string tn.name)).setCell 1 (.string tn.key)).setCell 2 (.int .i64 tn.kind)).setCell 3 (.int .u64 tn.num)).setCell 4 (.string tn.text)).setCell 5 (.slice K9 tn.kids.length kc9)) rfl rfl Try.underlying54 rfl size54
                ⟨_, rfl, _, rfl, (g1.out.keep fun b hb => hu2.out.block b (by have := hB.out; have := hsz4p.out; show b ≠ p + 1 + 1; rcases hb.1 with h | h <;> omega)).mono fun b hb => ⟨by rw [hp.out]; have := hB.out; have := hsz4p.out; rcases hb.1 with h | h <;> omega, by rw [hu2.out.size]; exact hb.2⟩, Below.trans kx.out (hu2.out.below (by rw [hp.out]; show p ≤ p + 1 + 1; omega))⟩
        · rw [hfi]
          have hlt := (List.getElem?_eq_some_iff.1 hki).1
          obtain ⟨g, cap, sp, hv, _, hbk, hcap2, hmx, hszz⟩ := own_form hrow.out.own (by omega)
          simp only [Value.slice.injEq, true_and] at hv
          obtain ⟨rfl, rfl⟩ := hv
          have hgS := hrow.out.g g rfl
          have hgb := hbk.lt
          have hgne : g ≠ p ∧ g ≠ p + 1 ∧ g ≠ p + 1 + 1 := by have := hSuH.out g hgS.1; have := hB.out; exact ⟨by omega, by omega, by omega⟩
          have hgbu : bu ≠ g := fun e => hf3.out (e ▸ hgS.1)
          have kg := Hd.mk (show Blk w10 g (css.flatten ++ sp) 54 from (hsame.out g hgb hgne.2.1).trans hbk)
          obtain rfl : r = (putT t init (u.wk (u.kids.set i x)), 0) := by rw [← hr0.out, setL, hks, if_pos (by simp), hrep]
          have hlen6 := Hd.mk (show (css.flatten ++ sp).length = ku * 6 from hszz)
          have hgS := Hd.mk hgS
          have hown := Hd.mk (own_keep (w' := w10) hrow.out.own (fun y hy => (show ∀ z, g = z → w10.heap[z]? = W4.heap[z]? from fun z hz => hz ▸ hsame.out g hgb hgne.2.1) y (by simpa [Value.ownBlock] using hy)))
          obtain ⟨e0, e1, e2, e3, e4, e5⟩ := six (Ext.refl w10) hcu.out
          have lt1 := World.block_lt_of_cell? w10 _ e0
          have gX := kX.out.cell
          have hil : (i : Int) < (u.kids.length : Int) := by omega
          clear hbk hszz hfi hrep hki hks hr0
          go_wp2_with fail
          clear gX e0 e1 e2 e3 e4 e5 lt1
          refine Flow.wp_region_flow_l (fun qq => match qq with
            | 51 => SP.eq (.pointer (some ⟨bu, ou, none⟩))
            | 52 => SP.eq (.pointer (some ⟨bu, ou, none⟩))
            | 53 => SP.eq (.pointer (some ⟨bu, ou + 5, none⟩))
            | 54 => SP.eq (.slice (some ⟨g, 0, none⟩) u.kids.length ku)
            | 55 => SP.eq (.int .i64 (i : Nat))
            | 56 => SP.eq (.agg #[.string x.name, .string x.key, .int .i64 x.kind, .int .u64 x.num, .string x.text, .slice Kx1 x.kids.length kx1])
            | 57 => SP.eq (.pointer (some ⟨g, i * 6, none⟩))
            | _ => SP.any) 7 (by kernel_rfl) 80 rfl (by kernel_rfl) ?_ ?_
          · skip
            refine ⟨?_, ?_, ?_, ?_, ?_, ?_, ?_, trivial⟩
            · intro act W2 hk
              refine Flow.does_intro rfl (fun Kq hK => ?_)
              have e9 : act.tmps[9]?.getD undef = .pointer (some ⟨bu, ou, none⟩) := hk.o 9 (by kernel_rfl)
              clear hk
              go_simp
              exact hK _ _ (Ext.refl _) (fun d hd => by cases hd; rfl)
            · intro act W2 hk
              refine Flow.does_intro rfl (fun Kq hK => ?_)
              have e51 : act.tmps[51]?.getD undef = .pointer (some ⟨bu, ou, none⟩) := hk.v 51 (by kernel_rfl)
              clear hk
              go_simp
              exact hK _ _ (Ext.refl _) (fun d hd => by cases hd; rfl)
            · intro act W2 hk
              refine Flow.does_intro rfl (fun Kq hK => ?_)
              have e52 : act.tmps[52]?.getD undef = .pointer (some ⟨bu, ou, none⟩) := hk.v 52 (by kernel_rfl)
              clear hk
              go_simp
              exact hK _ _ (Ext.refl _) (fun d hd => by cases hd; rfl)
            · intro act W2 hk
              refine Flow.does_intro rfl (fun Kq hK => ?_)
              have e53 : act.tmps[53]?.getD undef = .pointer (some ⟨bu, ou + 5, none⟩) := hk.v 53 (by kernel_rfl)
              have g5 := Ext.cell ((Ext.drew w10).trans hk.ext) ((hcu.out) 5 _ rfl)
              clear hk
              go_simp
              exact hK _ _ (Ext.refl _) (fun d hd => by cases hd; rfl)
            · intro act W2 hk
              refine Flow.does_intro rfl (fun Kq hK => ?_)
              have e10 : act.tmps[10]?.getD undef = .int .i64 (i : Nat) := hk.o 10 (by kernel_rfl)
              clear hk
              go_simp
              exact hK _ _ (Ext.refl _) (fun d hd => by cases hd; rfl)
            · intro act W2 hk
              refine Flow.does_intro rfl (fun Kq hK => ?_)
              have e5 : act.tmps[5]?.getD undef = .pointer (some ⟨p + 1, 0, none⟩) := hk.o 5 (by kernel_rfl)
              have g := ((kX.out).ext ((Ext.drew w10).trans hk.ext)).cell
              clear hk
              go_simp
              exact hK _ _ (Ext.refl _) (fun d hd => by cases hd; rfl)
            · intro act W2 hk
              refine Flow.does_intro rfl (fun Kq hK => ?_)
              have e54 : act.tmps[54]?.getD undef = .slice (some ⟨g, 0, none⟩) u.kids.length ku := hk.v 54 (by kernel_rfl)
              have e55 : act.tmps[55]?.getD undef = .int .i64 (i : Nat) := hk.v 55 (by kernel_rfl)
              clear hk
              go_simp
              exact hK _ _ (Ext.refl _) (fun d hd => by cases hd; rfl)
          · intro act V1 he
            have hxV := Hd.mk ((Ext.drew w10).trans he.ext)
            obtain ⟨us, hA, hF⟩ := he.out [51, 52, 53, 54, 55, 56, 57] (by kernel_rfl)
            simp only [Flow.fillL, List.contains_cons, List.contains_nil, Nat.reduceBEq, Bool.or_false, Bool.false_or, Bool.or_true, Bool.true_or, ↓reduceIte, Nat.reduceAdd, Bool.false_eq_true] at hA
            subst hA
            have f56 : us 56 = .agg #[.string x.name, .string x.key, .int .i64 x.kind, .int .u64 x.num, .string x.text, .slice Kx1 x.kids.length kx1] := hF 56 (by simp)
            have f57 : us 57 = .pointer (some ⟨g, i * 6, none⟩) := hF 57 (by simp)
            clear hF he
            rw [f56]
            clear f56
            rw [f57]
            clear f57
            have kg2 := Hd.mk (kg.out.ext hxV.out)
            have hfr := kg2.out.free
            have hl6 := hlen6.out
            obtain ⟨v0, z0⟩ := cell_some kg2.out (i := i * 6) (by omega)
            obtain ⟨v1, z1⟩ := cell_some kg2.out (i := i * 6 + 1) (by omega)
            obtain ⟨v2, z2⟩ := cell_some kg2.out (i := i * 6 + 2) (by omega)
            obtain ⟨v3, z3⟩ := cell_some kg2.out (i := i * 6 + 3) (by omega)
            obtain ⟨v4, z4⟩ := cell_some kg2.out (i := i * 6 + 4) (by omega)
            obtain ⟨v5, z5⟩ := cell_some kg2.out (i := i * 6 + 5) (by omega)
            refine (show wpList _ _ _ (⟨none, .store 54 (.tmp 57) (.tmp 56), _, _, _, none⟩ :: []) _ _ from ?_)
            go_wp2_with ((with_reducible refine stop_at (.load 54 (.tmp 3)) ?_))
            refine Stop.mk ?_
            obtain ⟨cs', q1, q2, q3, q4, q5⟩ := set6 kg2.out (o := i * 6) (by omega) (.string x.name) (.string x.key) (.int .i64 x.kind) (.int .u64 x.num) (.string x.text) (.slice Kx1 x.kids.length kx1)
            generalize ((((((V1.setCell ⟨g, i * 6, none⟩ (.string x.name)).setCell ⟨g, i * 6 + 1, none⟩ (.string x.key)).setCell ⟨g, i * 6 + 2, none⟩ (.int .i64 x.kind)).setCell ⟨g, i * 6 + 3, none⟩ (.int .u64 x.num)).setCell ⟨g, i * 6 + 4, none⟩ (.string x.text)).setCell ⟨g, i * 6 + 5, none⟩ (.slice Kx1 x.kids.length kx1)) = W11 at *
            have hVs := hxV.out.size
            have hsm : ∀ b, b < W4.heap.size → b ≠ p + 1 → b ≠ g → W11.heap[b]? = W4.heap[b]? := fun b hb h1 h2 => (q2.block b h2).trans ((hxV.out.block b (Nat.lt_of_lt_of_le hb (Nat.le_trans hW4.out hs9.out))).trans (hsame.out b hb h1))
            have hrx2 : OT (fun b => lx ≤ b ∧ b < hX) W11 x [.string x.name, .string x.key, .int .i64 x.kind, .int .u64 x.num, .string x.text, .slice Kx1 x.kids.length kx1] := (hrx.out.ext (fun b hb => Nat.lt_of_lt_of_le hb.2 hs9.out) hxV.out).keep fun b hb => q2.block b (fun e => by subst e; have := hs5.out; have := hb.1; omega)
            have hown2 := own_set6 (w' := W11) (cs' := cs') (c' := [.string x.name, .string x.key, .int .i64 x.kind, .int .u64 x.num, .string x.text, .slice Kx1 x.kids.length kx1]) hrow.out.h6 hrow.out.hl (own_ext hxV.out hown.out) hlt rfl (fun cs hcs => by obtain rfl := hcs.inj kg2.out; exact ⟨q1, q3, q4, q5⟩)
            have hOR := hrow.out.set (N := W4.heap.size) (w' := W11) (fun b hb => by have := hSuH.out b hb; rw [hsz4.out]; exact this.2) hrx2 (fun b hb => .inr (Nat.le_trans hs5.out hb.1)) hown2 (fun j hj b hb => by
                      have hbS := hrow.out.sub j b hb
                      have h1 := hSuH.out b hbS
                      exact hsm b (by rw [hsz4.out]; exact h1.2) (by have := hB.out; omega) (fun e => hgS.out.2 j (e ▸ hb)))
            have hOT : OT (fun b => Su b ∨ W4.heap.size ≤ b) W11 (u.wk (u.kids.set i x)) (cT u.name u.key u.kind u.num u.text (some ⟨g, 0, none⟩) (u.kids.set i x).length ku) := OT.of_row (t := u.wk (u.kids.set i x)) hOR
            rw [List.length_set] at hOT
            obtain ⟨c', g1, g2, g3⟩ := hf6.out W11 _ _ _ (fun b hb h1 h2 => hsm b (by rw [hsz4.out]; exact hb.2) (by have := hB.out; have := hb.1; omega) (fun e => h2 (e ▸ hgS.out.1))) (fun _ => six_same (hsm bu hbl hbne.1 hgbu) hf4.out) hOT (fun b hb => hb)
            have hc' : c' = [.string t.name, .string t.key, .int .i64 t.kind, .int .u64 t.num, .string t.text, .slice K1 t.kids.length kc1] := by
                      by_cases hi0 : init = []
                      · rw [g2 hi0]; rcases hf5.out with ⟨_, _, _, h⟩ | ⟨h, _⟩
                        · exact h
                        · exact absurd hi0 h
                      · exact g3 hi0
            subst hc'
            replace kT := Hd.mk (q2.blk (fun e => hgne.1 e.symm) (kT.out.ext hxV.out))
            replace kZ := Hd.mk (q2.blk (fun e => hgne.2.2 e.symm) (kZ.out.ext hxV.out))
            replace kx := Hd.mk (show Ext w W11 from Below.trans (kx.out.trans hxV.out) (q2.below (by have := hSuH.out g hgS.out.1; have := hB.out; rw [hp.out]; omega)))
            have g1 := Hd.mk g1.lt
            have hW11 := Hd.mk (show W4.heap.size ≤ W11.heap.size by rw [q2.size]; exact Nat.le_trans (Nat.le_trans hW4.out hs9.out) hVs)
            clear hown2 hOR hOT g2 g3 hrx2 hsm q1 q2 q3 q4 q5 z0 z1 z2 z3 z4 z5 hfr kg2 kX hxV
            have gT := kT.out.cell
            have gZ := kZ.out.cell
            have fZ := kZ.out.free
            go_wp2_with fail
            have hu := Hd.mk ((((((Upd.setCell W11 ⟨p + 1 + 1, 0, none⟩ (.string t.name)).trans (Upd.setCell _ ⟨p + 1 + 1, 1, none⟩ (.string t.key))).trans (Upd.setCell _ ⟨p + 1 + 1, 2, none⟩ (.int .i64 t.kind))).trans (Upd.setCell _ ⟨p + 1 + 1, 3, none⟩ (.int .u64 t.num))).trans (Upd.setCell _ ⟨p + 1 + 1, 4, none⟩ (.string t.text))).trans (Upd.setCell _ ⟨p + 1 + 1, 5, none⟩ (.slice K1 t.kids.length kc1)))
            exact ret_box2 rfl (p + 1 + 1) _ 54 _ ((((((kZ.out.setCell 0 (.string t.name)).setCell 1 (.string t.key)).setCell 2 (.int .i64 t.kind)).setCell 3 (.int .u64 t.num)).setCell 4 (.string t.text)).setCell 5 (.slice K1 t.kids.length kc1)) rfl rfl Try.underlying54 rfl size54
              ⟨_, rfl, _, rfl, (g1.out.keep fun b hb => hu.out.block b (by have := hB.out; have := hbl; have := hsz4p.out; show b ≠ p + 1 + 1; rcases hb.1 with h | h <;> omega)).mono fun b hb => ⟨by rw [hp.out]; have := hB.out; have := hsz4p.out; rcases hb.1 with h | h <;> omega, by rw [hu.out.size]; exact hb.2⟩, Below.trans kx.out (hu.out.below (by rw [hp.out]; show p ≤ p + 1 + 1; omega))⟩
      · rw [show (u.kind != 0) = true by simp [hk]]
        rw [if_pos hk] at hr0
        obtain rfl : r = (zeroT, 30) := hr0.out.symm
        clear kT4 kT kX hr1 hf1 hf3 hf4 hf5 hf6 hsame hblkH hrow hSuH hk hru
        have gZ := kZ.out.cell
        have fZ := kZ.out.free
        go_wp2_with fail
        have hu := Hd.mk ((((((Upd.setCell w6 ⟨p + 1 + 1, 0, none⟩ (.string ⟨#[]⟩)).trans (Upd.setCell _ ⟨p + 1 + 1, 1, none⟩ (.string ⟨#[]⟩))).trans (Upd.setCell _ ⟨p + 1 + 1, 2, none⟩ (.int .i64 0))).trans (Upd.setCell _ ⟨p + 1 + 1, 3, none⟩ (.int .u64 0))).trans (Upd.setCell _ ⟨p + 1 + 1, 4, none⟩ (.string ⟨#[]⟩))).trans (Upd.setCell _ ⟨p + 1 + 1, 5, none⟩ (.slice none 0 0)))
        exact ret_box2 rfl (p + 1 + 1) _ 54 _ ((((((kZ.out.setCell 0 (.string ⟨#[]⟩)).setCell 1 (.string ⟨#[]⟩)).setCell 2 (.int .i64 0)).setCell 3 (.int .u64 0)).setCell 4 (.string ⟨#[]⟩)).setCell 5 (.slice none 0 0)) rfl rfl Try.underlying54 rfl size54
          ⟨_, rfl, _, rfl, ot_zero _ _, Below.trans kx.out (hu.out.below (by rw [hp.out]; show p ≤ p + 1 + 1; omega))⟩
end Go.Proofs.Ytgkgedjmnbjalaa

/- Plain laws of edits: back as many as there; none of a tree and itself; none just where two trees that are right are the same; the inverse of the inverse.
   Conditions: none. -/
import Derived.Test.YtgkgedjmnbjalaaTN
import Derived.Test.YtgkgedjmnbjalaaTE
import Derived.Test.YtgkgedjmnbjalaaTZ
set_option linter.unusedSimpArgs false
namespace Go.Proofs.Ytgkgedjmnbjalaa
open Go.RowKit Go.Sort

/-! ### The order of kids -/
theorem by_asymm : ∀ x y : List UInt8, Op.bytesLess x y = true → Op.bytesLess y x = false
  | [], [], h => by simp [Op.bytesLess] at h
  | [], b :: y, _ => rfl
  | a :: x, [], h => by simp [Op.bytesLess] at h
  | a :: x, b :: y, h => by
    simp only [Op.bytesLess, Bool.or_eq_true, decide_eq_true_eq, Bool.and_eq_true, Bool.or_eq_false_iff, decide_eq_false_iff_not, Bool.and_eq_false_iff] at h ⊢
    rcases h with h | ⟨h1, h2⟩
    · refine ⟨UInt8.not_lt.2 (UInt8.le_of_lt h), .inl (by simp; intro e; subst e; exact absurd h (UInt8.lt_irrefl _))⟩
    · simp at h1
      subst h1
      exact ⟨UInt8.lt_irrefl _, .inr (by_asymm x y h2)⟩
theorem by_anti : ∀ x y : List UInt8, Op.bytesLess x y = false → Op.bytesLess y x = false → x = y
  | [], [], _, _ => rfl
  | [], b :: y, h, _ => by simp [Op.bytesLess] at h
  | a :: x, [], _, h => by simp [Op.bytesLess] at h
  | a :: x, b :: y, h, k => by
    simp only [Op.bytesLess, Bool.or_eq_false_iff, decide_eq_false_iff_not, Bool.and_eq_false_iff] at h k
    have hab : a = b := UInt8.le_antisymm (UInt8.not_lt.1 k.1) (UInt8.not_lt.1 h.1)
    subst hab
    have h2 : Op.bytesLess x y = false := by simpa using h.2
    have k2 : Op.bytesLess y x = false := by simpa using k.2
    rw [by_anti x y h2 k2]
theorem by_trans : ∀ x y z : List UInt8, Op.bytesLess x y = true → Op.bytesLess y z = true → Op.bytesLess x z = true
  | _, [], z, h, _ => by simp [Op.bytesLess] at h
  | x, b :: y, [], _, k => by simp [Op.bytesLess] at k
  | [], b :: y, c :: z, _, _ => rfl
  | a :: x, b :: y, c :: z, h, k => by
    simp only [Op.bytesLess, Bool.or_eq_true, decide_eq_true_eq, Bool.and_eq_true] at h k ⊢
    rcases h with h | ⟨h1, h2⟩
    · rcases k with k | ⟨k1, k2⟩
      · exact .inl (UInt8.lt_trans h k)
      · simp at k1; subst k1; exact .inl h
    · simp at h1
      subst h1
      rcases k with k | ⟨k1, k2⟩
      · exact .inl k
      · simp at k1; subst k1; exact .inr ⟨by simp, by_trans x y z h2 k2⟩
theorem ltB_asymm {a b : ByteArray} (h : ltB a b = true) : ltB b a = false := by_asymm _ _ h
theorem ltB_trans {a b c : ByteArray} (h : ltB a b = true) (k : ltB b c = true) : ltB a c = true := by_trans _ _ _ h k
theorem ltB_eq {a b : ByteArray} (h : ltB a b = false) (k : ltB b a = false) : a = b := of_decide_eq_true (by rw [← str_eq, by_anti _ _ h k]; exact beq_self_eq_true _)
theorem lessT_irr (x : T) : lessT x x = false := by simp [lessT, ltB_irr]
theorem lessT_asymm {x y : T} (h : lessT x y = true) : lessT y x = false := by
  simp only [lessT, Bool.or_eq_true, Bool.and_eq_true, decide_eq_true_eq, Bool.or_eq_false_iff, Bool.and_eq_false_iff, decide_eq_false_iff_not] at h ⊢
  rcases h with h | ⟨h1, h2⟩
  · exact ⟨ltB_asymm h, .inl (fun e => by rw [e, ltB_irr] at h; cases h)⟩
  · exact ⟨by rw [h1]; exact ltB_irr _, .inr (ltB_asymm h2)⟩
theorem lessT_trans {x y z : T} (h : lessT x y = true) (k : lessT y z = true) : lessT x z = true := by
  simp only [lessT, Bool.or_eq_true, Bool.and_eq_true, decide_eq_true_eq] at h k ⊢
  rcases h with h | ⟨h1, h2⟩
  · rcases k with k | ⟨k1, k2⟩
    · exact .inl (ltB_trans h k)
    · exact .inl (by rw [← k1]; exact h)
  · rcases k with k | ⟨k1, k2⟩
    · exact .inl (by rw [h1]; exact k)
    · exact .inr ⟨h1.trans k1, ltB_trans h2 k2⟩
theorem lessT_step {x y z : T} (h : stepT x = stepT y) : lessT x z = lessT y z ∧ lessT z x = lessT z y := by
  have h1 : x.name = y.name := congrArg Prod.fst h
  have h2 : x.key = y.key := congrArg Prod.snd h
  exact ⟨by unfold lessT; rw [h1, h2], by unfold lessT; rw [h1, h2]⟩
theorem step_of_less {x y : T} (h : lessT x y = false) (k : lessT y x = false) : stepT x = stepT y := by
  simp only [lessT, Bool.or_eq_false_iff, Bool.and_eq_false_iff, decide_eq_false_iff_not] at h k
  have hn := ltB_eq h.1 k.1
  have h2 : ltB x.key y.key = false := by
    rcases h.2 with h' | h'
    · exact absurd hn h'
    · exact h'
  have k2 : ltB y.key x.key = false := by
    rcases k.2 with h' | h'
    · exact absurd hn.symm h'
    · exact h'
  exact Prod.ext hn (ltB_eq h2 k2)
theorem same_step {x y : T} (h : sameT x y = true) : stepT x = stepT y := by
  rw [sameT_eq] at h
  simp only [Bool.and_eq_true, decide_eq_true_eq] at h
  exact Prod.ext h.1.1.1 h.1.1.2

/-! ### Same -/
mutual
theorem sameT_rfl : ∀ t : T, sameT t t = true
  | .mk n k d m t l => by rw [sameT_mk]; simp [sameL_rfl l]
theorem sameL_rfl : ∀ l : List T, sameL l l = true
  | [] => rfl
  | x :: l => by rw [sameL, sameT_rfl x, sameL_rfl l]; rfl
end
mutual
theorem sameT_to : ∀ a b : T, sameT a b = true → a = b
  | .mk n k d m t l, .mk n' k' d' m' t' l', h => by
    rw [sameT_mk] at h
    simp only [Bool.and_eq_true, decide_eq_true_eq] at h
    obtain ⟨⟨⟨h1, h2⟩, ⟨h3, h4⟩, h5⟩, h6⟩ := h
    rw [h1, h2, h3, h4, h5, sameL_to l l' h6]
theorem sameL_to : ∀ l m : List T, sameL l m = true → l = m
  | [], [], _ => rfl
  | x :: l, y :: m, h => by
    rw [sameL, Bool.and_eq_true] at h
    rw [sameT_to x y h.1, sameL_to l m h.2]
  | [], y :: m, h => by simp [sameL] at h
  | x :: l, [], h => by simp [sameL] at h
end
theorem sameT_iff {a b : T} : sameT a b = true ↔ a = b := ⟨sameT_to a b, fun h => by rw [h]; exact sameT_rfl b⟩
theorem sameL_iff {a b : List T} : sameL a b = true ↔ a = b := ⟨sameL_to a b, fun h => by rw [h]; exact sameL_rfl b⟩
theorem sameT_comm (a b : T) : sameT a b = sameT b a := by
  cases h : sameT a b with
  | true => rw [sameT_iff.1 h, sameT_rfl]
  | false =>
    cases k : sameT b a with
    | false => rfl
    | true => rw [sameT_iff.1 k, sameT_rfl] at h; cases h

/-! ### As many back as there -/
theorem mergeE_back {one other one' other' : T → List E} {both both' : T → T → List E} (h1 : ∀ x, (one x).length = (other' x).length) (h2 : ∀ y, (other y).length = (one' y).length) (h3 : ∀ x y, (both x y).length = (both' y x).length) :
    ∀ (n : Nat) (xs ys : List T), (mergeE one other both n xs ys).length = (mergeE one' other' both' n ys xs).length
  | 0, _, _ => by simp [mergeE]
  | n + 1, [], [] => rfl
  | n + 1, x :: xs, [] => by rw [mergeE_x, mergeE_y, List.length_append, List.length_append, h1, mergeE_back h1 h2 h3 n xs []]
  | n + 1, [], y :: ys => by rw [mergeE_x, mergeE_y, List.length_append, List.length_append, h2, mergeE_back h1 h2 h3 n [] ys]
  | n + 1, x :: xs, y :: ys => by
    cases hl : lessT x y with
    | true => rw [mergeE_lt n xs ys hl, mergeE_gt n ys xs (lessT_asymm hl) hl, List.length_append, List.length_append, h1, mergeE_back h1 h2 h3 n xs (y :: ys)]
    | false =>
      cases hg : lessT y x with
      | true => rw [mergeE_gt n xs ys hl hg, mergeE_lt n ys xs hg, List.length_append, List.length_append, h2, mergeE_back h1 h2 h3 n (x :: xs) ys]
      | false => rw [mergeE_eq n xs ys hl hg, mergeE_eq n ys xs hg hl, List.length_append, List.length_append, h3, mergeE_back h1 h2 h3 n xs ys]
theorem edits_back : ∀ (N : Nat) (a b : T) (way way' : List Step), (edits N a b way).length = (edits N b a way').length
  | 0, _, _, _, _ => rfl
  | N + 1, a, b, way, way' => by
    rw [edits, edits, Nat.add_comm b.kids.length]
    refine mergeE_back (one := cutE way) (other := setE way) (one' := cutE way') (other' := setE way') (fun x => rfl) (fun y => rfl) (fun x y => ?_) _ _ _
    unfold bothE
    rw [sameT_comm y x]
    by_cases h1 : sameT x y = true
    · rw [if_pos h1, if_pos h1]
    · rw [if_neg h1, if_neg h1]
      by_cases h2 : x.kind ≠ 0 ∧ y.kind ≠ 0
      · rw [if_pos h2, if_pos h2.symm]; rfl
      · rw [if_neg h2, if_neg (c := y.kind ≠ 0 ∧ x.kind ≠ 0) (fun h => h2 h.symm)]
        by_cases h3 : x.kind ≠ 0 ∨ y.kind ≠ 0
        · rw [if_pos h3, if_pos (c := y.kind ≠ 0 ∨ x.kind ≠ 0) h3.symm]; rfl
        · rw [if_neg h3, if_neg (c := y.kind ≠ 0 ∨ x.kind ≠ 0) (fun h => h3 h.symm)]
          exact edits_back N x y _ _

/-! ### None of a tree and itself -/
theorem mergeE_self {one other : T → List E} {both : T → T → List E} (h : ∀ x, both x x = []) : ∀ (n : Nat) (xs : List T), mergeE one other both n xs xs = []
  | 0, _ => by simp [mergeE]
  | n + 1, [] => rfl
  | n + 1, x :: xs => by rw [mergeE_eq n xs xs (lessT_irr x) (lessT_irr x), h, mergeE_self h n xs]; rfl
theorem edits_self (N : Nat) (a : T) (way : List Step) : edits N a a way = [] := by
  cases N with
  | zero => rfl
  | succ N =>
    rw [edits]
    exact mergeE_self (fun x => by unfold bothE; rw [if_pos (sameT_rfl x)]) _ _

/-! ### None just where they are the same -/
theorem right_kid {l : List T} : ∀ {p : Option T}, rightL p l = true → ∀ x ∈ l, rightT x = true := by
  induction l with
  | nil => intro p _ x hx; cases hx
  | cons y l ih =>
    intro p h x hx
    rw [rightL_cons, Bool.and_eq_true, Bool.and_eq_true] at h
    rcases List.mem_cons.1 hx with rfl | hx
    · exact h.1.1
    · exact ih h.2 x hx
theorem right_zero {x : T} (h : rightT x = true) (h0 : x.kind = 0) : x.num = 0 ∧ x.text = ⟨#[]⟩ ∧ rightL none x.kids = true := by
  obtain ⟨n, k, d, m, t, l⟩ := x
  have h0' : d = 0 := h0
  subst h0'
  rw [rightT, if_pos rfl, Bool.and_eq_true, Bool.and_eq_true] at h
  exact ⟨of_decide_eq_true h.1.1, of_decide_eq_true h.1.2, h.2⟩
theorem right_leaf {x : T} (h : rightT x = true) (h0 : x.kind ≠ 0) : x.kids = [] := by
  obtain ⟨n, k, d, m, t, l⟩ := x
  have h0' : ¬ d = 0 := h0
  rw [rightT, if_neg h0'] at h
  exact List.isEmpty_iff.1 h
theorem T.ext' {x y : T} (h1 : stepT x = stepT y) (h2 : x.kind = y.kind) (h3 : x.num = y.num) (h4 : x.text = y.text) (h5 : x.kids = y.kids) : x = y := by
  obtain ⟨n, k, d, m, t, l⟩ := x
  obtain ⟨n', k', d', m', t', l'⟩ := y
  have e1 : n = n' := congrArg Prod.fst h1
  have e2 : k = k' := congrArg Prod.snd h1
  have e3 : d = d' := h2
  have e4 : m = m' := h3
  have e5 : t = t' := h4
  have e6 : l = l' := h5
  rw [e1, e2, e3, e4, e5, e6]
theorem mergeE_nil {one other : T → List E} {both : T → T → List E} (h1 : ∀ x, one x ≠ []) (h2 : ∀ y, other y ≠ []) : ∀ (n : Nat) (xs ys : List T), xs.length + ys.length ≤ n →
    (∀ x ∈ xs, ∀ y ∈ ys, stepT x = stepT y → (both x y = [] ↔ x = y)) → (mergeE one other both n xs ys = [] ↔ xs = ys)
  | 0, [], [], _, _ => by simp [mergeE]
  | 0, x :: xs, _, h, _ => by simp at h
  | 0, [], y :: ys, h, _ => by simp at h
  | n + 1, [], [], _, _ => by simp [mergeE]
  | n + 1, x :: xs, [], _, _ => by rw [mergeE_x]; simp [h1]
  | n + 1, [], y :: ys, _, _ => by rw [mergeE_y]; simp [h2]
  | n + 1, x :: xs, y :: ys, h, h3 => by
    cases hl : lessT x y with
    | true =>
      rw [mergeE_lt n xs ys hl]
      simp only [List.append_eq_nil_iff, h1, false_and, false_iff]
      intro e
      injection e with e1 _
      rw [e1, lessT_irr] at hl
      cases hl
    | false =>
      cases hg : lessT y x with
      | true =>
        rw [mergeE_gt n xs ys hl hg]
        simp only [List.append_eq_nil_iff, h2, false_and, false_iff]
        intro e
        injection e with e1 _
        rw [e1, lessT_irr] at hg
        cases hg
      | false =>
        rw [mergeE_eq n xs ys hl hg, List.append_eq_nil_iff, h3 x (by simp) y (by simp) (step_of_less hl hg),
          mergeE_nil h1 h2 n xs ys (by simp at h; omega) (fun x' hx y' hy => h3 x' (by simp [hx]) y' (by simp [hy]))]
        simp
theorem kid_le_deep {l : List T} {x : T} (h : x ∈ l) : x.deep ≤ deepL l := by
  obtain ⟨i, hi⟩ := List.getElem?_of_mem h
  exact deepL_mem hi
theorem edits_nil : ∀ (N : Nat) (a b : T) (way : List Step), a.deep ≤ N → (∀ x ∈ a.kids, rightT x = true) → (∀ y ∈ b.kids, rightT y = true) → (edits N a b way = [] ↔ a.kids = b.kids)
  | 0, a, _, _, h, _, _ => by rw [a.deep_eq] at h; omega
  | N + 1, a, b, way, hd, ha, hb => by
    rw [edits]
    refine mergeE_nil (fun x => by simp [cutE]) (fun y => by simp [setE]) _ _ _ (Nat.le_refl _) (fun x hx y hy hs => ?_)
    unfold bothE
    by_cases h1 : sameT x y = true
    · rw [if_pos h1]
      simp [sameT_iff.1 h1]
    · have hne : x ≠ y := fun e => h1 (sameT_iff.2 e)
      rw [if_neg h1]
      by_cases h2 : x.kind ≠ 0 ∧ y.kind ≠ 0
      · rw [if_pos h2]; simp [hne]
      · rw [if_neg h2]
        by_cases h3 : x.kind ≠ 0 ∨ y.kind ≠ 0
        · rw [if_pos h3]; simp [hne, cutE]
        · rw [if_neg h3]
          have hx0 : x.kind = 0 := by
            by_cases h : x.kind = 0
            · exact h
            · exact absurd (Or.inl h) h3
          have hy0 : y.kind = 0 := by
            by_cases h : y.kind = 0
            · exact h
            · exact absurd (Or.inr h) h3
          obtain ⟨p1, p2, p3⟩ := right_zero (ha x hx) hx0
          obtain ⟨q1, q2, q3⟩ := right_zero (hb y hy) hy0
          rw [edits_nil N x y _ (by have := kid_le_deep hx; rw [a.deep_eq] at hd; omega) (right_kid p3) (right_kid q3)]
          refine ⟨fun h => absurd (T.ext' hs (hx0.trans hy0.symm) (p1.trans q1.symm) (p2.trans q2.symm) h) hne, fun h => absurd h hne⟩

/-! ### The inverse of the inverse -/
/-- An edit as the edits of two trees are. -/
def Fit (e : E) : Prop := (e.kind = 1 ∧ e.old = zeroT) ∨ (e.kind = 2 ∧ e.node = zeroT) ∨ e.kind = 3
theorem mergeE_all {one other : T → List E} {both : T → T → List E} {P : E → Prop} : ∀ (n : Nat) (xs ys : List T), (∀ x ∈ xs, ∀ e ∈ one x, P e) → (∀ y ∈ ys, ∀ e ∈ other y, P e) → (∀ x ∈ xs, ∀ y ∈ ys, stepT x = stepT y → ∀ e ∈ both x y, P e) → ∀ e ∈ mergeE one other both n xs ys, P e
  | 0, _, _, _, _, _ => by simp [mergeE]
  | n + 1, [], [], _, _, _ => by simp [mergeE]
  | n + 1, x :: xs, [], h1, h2, h3 => by
    intro e he
    rw [mergeE_x, List.mem_append] at he
    rcases he with he | he
    · exact h1 x (by simp) e he
    · exact mergeE_all n xs [] (fun x' hx => h1 x' (by simp [hx])) h2 (fun x' hx => h3 x' (by simp [hx])) e he
  | n + 1, [], y :: ys, h1, h2, h3 => by
    intro e he
    rw [mergeE_y, List.mem_append] at he
    rcases he with he | he
    · exact h2 y (by simp) e he
    · exact mergeE_all n [] ys h1 (fun y' hy => h2 y' (by simp [hy])) (fun x' hx y' hy => h3 x' hx y' (by simp [hy])) e he
  | n + 1, x :: xs, y :: ys, h1, h2, h3 => by
    intro e he
    cases hl : lessT x y with
    | true =>
      rw [mergeE_lt n xs ys hl, List.mem_append] at he
      rcases he with he | he
      · exact h1 x (by simp) e he
      · exact mergeE_all n xs (y :: ys) (fun x' hx => h1 x' (by simp [hx])) h2 (fun x' hx => h3 x' (by simp [hx])) e he
    | false =>
      cases hg : lessT y x with
      | true =>
        rw [mergeE_gt n xs ys hl hg, List.mem_append] at he
        rcases he with he | he
        · exact h2 y (by simp) e he
        · exact mergeE_all n (x :: xs) ys h1 (fun y' hy => h2 y' (by simp [hy])) (fun x' hx y' hy => h3 x' hx y' (by simp [hy])) e he
      | false =>
        rw [mergeE_eq n xs ys hl hg, List.mem_append] at he
        rcases he with he | he
        · exact h3 x (by simp) y (by simp) (step_of_less hl hg) e he
        · exact mergeE_all n xs ys (fun x' hx => h1 x' (by simp [hx])) (fun y' hy => h2 y' (by simp [hy])) (fun x' hx y' hy => h3 x' (by simp [hx]) y' (by simp [hy])) e he
theorem edits_fit : ∀ (N : Nat) (a b : T) (way : List Step), ∀ e ∈ edits N a b way, Fit e
  | 0, _, _, _ => by simp [edits]
  | N + 1, a, b, way => by
    rw [edits]
    refine mergeE_all _ _ _ (fun x _ e he => ?_) (fun y _ e he => ?_) (fun x _ y _ _ e he => ?_)
    · simp [cutE] at he; subst he; exact .inr (.inl ⟨rfl, rfl⟩)
    · simp [setE] at he; subst he; exact .inl ⟨rfl, rfl⟩
    · unfold bothE at he
      split at he
      · cases he
      · split at he
        · simp at he; subst he; exact .inr (.inr rfl)
        · split at he
          · simp [cutE, setE] at he
            rcases he with rfl | rfl
            · exact .inr (.inl ⟨rfl, rfl⟩)
            · exact .inl ⟨rfl, rfl⟩
          · exact edits_fit N x y _ e he
theorem inverse_append (l m : List E) : inverse (l ++ m) = inverse m ++ inverse l := by simp [inverse, List.flatMap_append]
theorem inverse_one (e : E) : inverse [e] = inv1 e := by simp [inverse]
theorem fit_back {e : E} (h : Fit e) : inverse (inv1 e) = [e] := by
  obtain ⟨k, way, node, old⟩ := e
  rcases h with ⟨h1, h2⟩ | ⟨h1, h2⟩ | h1
  · have h1' : k = 1 := h1
    have h2' : old = zeroT := h2
    subst h1' h2'
    rfl
  · have h1' : k = 2 := h1
    have h2' : node = zeroT := h2
    subst h1' h2'
    rfl
  · have h1' : k = 3 := h1
    subst h1'
    rfl
theorem inverse_back : ∀ l : List E, (∀ e ∈ l, Fit e) → inverse (inverse l) = l
  | [], _ => rfl
  | e :: l, h => by
    rw [show e :: l = [e] ++ l from rfl, inverse_append, inverse_append, inverse_one, fit_back (h e (by simp)), inverse_back l (fun e he => h e (by simp [he]))]
end Go.Proofs.Ytgkgedjmnbjalaa

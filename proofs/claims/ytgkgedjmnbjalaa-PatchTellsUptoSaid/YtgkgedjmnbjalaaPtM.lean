/- Texts that the law needs, joined.
   Conditions: none. -/
import Derived.Test.YtgkgedjmnbjalaaPtL
set_option linter.unusedSimpArgs false
set_option linter.unusedVariables false
set_option linter.unusedVariables false
namespace Go.Proofs.Ytgkgedjmnbjalaa
open Go.RowKit
namespace FlowJ
open Flow (certB closedB fitB depB oldB depsB rangeB tailB flowB fillL marked left ahead_listed getD_set put_getD put_getD_ge put_size put_defers' mem_ready' marked_size marked_getD unlisted left_set wpAny_fuel_ready upto wpAny_tail marked_range fillL_length fillL_get countP_set countP_other upto_getD upto_size upto_set)
variable {P : Program} {ops : Array Oper} {Q : Exit → Act → World → Prop}
structure PairOK (ops : Array Oper) (C : Array Nat) (L : List Nat) (s x tx : Nat) (Y : List (Nat × Tmp)) (J : Value → Value → World → Prop) : Prop where
  xL : x ∈ L
  xd : (ops[x]?).bind (·.dst) = some tx
  xs : (C.getD s 0).testBit x = true
  y : ∀ p ∈ Y, p.1 ≠ x ∧ p.2 ≠ tx ∧ p.1 ∈ L ∧ (ops[p.1]?).bind (·.dst) = some p.2 ∧ (C.getD s 0).testBit p.1 = true
  mono : ∀ u u' w w', Ext w w' → J u u' w → J u u' w'
def Xt (C : Array Nat) (F : Tmp → SP) (G : Act → World → Prop) (J : Value → Value → World → Prop) (s x tx : Nat) (Y : List (Nat × Tmp)) (i : Nat) (a : Act) (w : World) (v : Value) (w' : World) : Prop :=
  (i = s → G a w') ∧ (i = x → ∀ p ∈ Y, ∀ u, (F p.2).p u w → J v u w') ∧ ∀ p ∈ Y, i = p.1 → ∀ u, (F tx).p u w → (∀ q ∈ Y, (C.getD i 0).testBit q.1 = true → J u (a.tmps.getD q.2 undef) w) → J u v w'
structure Known (tx : Nat) (Y : List (Nat × Tmp)) (J : Value → Value → World → Prop) (R : World → World → Prop) (s : Nat) (ops : Array Oper) (C : Array Nat) (L : List Nat) (F F2 : Tmp → SP) (a0 : Act) (w0 : World) (i : Nat) (a : Act) (w : World) : Prop where
  ext : R w0 w
  early : (i = s ∨ (C.getD s 0).testBit i = true) → Ext w0 w
  size : a.tmps.size = a0.tmps.size
  dep : ∀ t, depB ops C L i t = true → (F2 t).p (a.tmps.getD t undef) w
  depE : (i = s ∨ (C.getD s 0).testBit i = true) → ∀ t, depB ops C L i t = true → (F t).p (a.tmps.getD t undef) w
  old : ∀ t, oldB ops C L i t = true → a.tmps.getD t undef = a0.tmps.getD t undef
  rel : i = s → ∀ p ∈ Y, J (a.tmps.getD tx undef) (a.tmps.getD p.2 undef) w
theorem Known.v {tx : Nat} {Y : List (Nat × Tmp)} {J : Value → Value → World → Prop} {R : World → World → Prop} {s : Nat} {C : Array Nat} {L : List Nat} {F F2 : Tmp → SP} {a0 : Act} {w0 : World} {i : Nat} {a : Act} {w : World} (h : Known tx Y J R s ops C L F F2 a0 w0 i a w) (t : Tmp) (hd : depB ops C L i t = true) : (F2 t).p (a.tmps[t]?.getD undef) w := by
  have := h.dep t hd
  rwa [Array.getD_eq_getD_getElem?] at this
theorem Known.ve {tx : Nat} {Y : List (Nat × Tmp)} {J : Value → Value → World → Prop} {R : World → World → Prop} {s : Nat} {C : Array Nat} {L : List Nat} {F F2 : Tmp → SP} {a0 : Act} {w0 : World} {i : Nat} {a : Act} {w : World} (h : Known tx Y J R s ops C L F F2 a0 w0 i a w) (t : Tmp) (he : (i == s || (C.getD s 0).testBit i) = true) (hd : depB ops C L i t = true) : (F t).p (a.tmps[t]?.getD undef) w := by
  have := h.depE (by simpa using he) t hd
  rwa [Array.getD_eq_getD_getElem?] at this
theorem Known.o {tx : Nat} {Y : List (Nat × Tmp)} {J : Value → Value → World → Prop} {R : World → World → Prop} {s : Nat} {C : Array Nat} {L : List Nat} {F F2 : Tmp → SP} {a0 : Act} {w0 : World} {i : Nat} {a : Act} {w : World} (h : Known tx Y J R s ops C L F F2 a0 w0 i a w) (t : Tmp) (hd : oldB ops C L i t = true) : a.tmps[t]?.getD undef = a0.tmps.getD t undef := by
  have := h.old t hd
  rwa [Array.getD_eq_getD_getElem?] at this
def Does (Rl : World → World → Prop) (G : Act → World → Value → World → Prop) (P : Program) (ops : Array Oper) (Q : Exit → Act → World → Prop) (F : Tmp → SP) (o : Oper) (a : Act) (w : World) : Prop :=
  if Region.wanted o (yielded ops a.tmps) then o.wp P a w (fun a' w' => ∃ v, a' = a.put o.dst v ∧ Rl w w' ∧ G a w v w' ∧ ∀ d, o.dst = some d → (F d).p v w') Q
  else G a w undef w ∧ ∀ d, o.dst = some d → (F d).p undef w
structure Ends (R : World → World → Prop) (G : Act → World → Prop) (s : Nat) (C : Array Nat) (ops : Array Oper) (L : List Nat) (F F2 : Tmp → SP) (a0 : Act) (w0 : World) (a : Act) (w : World) : Prop where
  ext : R w0 w
  size : a.tmps.size = a0.tmps.size
  defers : a.defers = a0.defers
  post : ∃ a1, G a1 w ∧ ∀ t, depB ops C L s t = true → a1.tmps.getD t undef = a.tmps.getD t undef
  new : ∀ j ∈ L, ∀ t, (ops[j]?).bind (·.dst) = some t → (F2 t).p (a.tmps.getD t undef) w
  old : ∀ t, (L.all fun j => ((ops[j]?).bind (·.dst)) != some t) = true → a.tmps.getD t undef = a0.tmps.getD t undef
structure Inv (x tx : Nat) (Y : List (Nat × Tmp)) (J : Value → Value → World → Prop) (R : World → World → Prop) (G : Act → World → Prop) (s : Nat) (C : Array Nat) (ops : Array Oper) (L : List Nat) (F F2 : Tmp → SP) (a0 : Act) (w0 : World) (l0 l : Array Bool) (a : Act) (w : World) : Prop where
  ext : R w0 w
  early : l.getD s false = false → Ext w0 w
  post : l.getD s false = true → ∃ a1, G a1 w ∧ ∀ t, depB ops C L s t = true → a1.tmps.getD t undef = a.tmps.getD t undef
  size : a.tmps.size = a0.tmps.size
  defers : a.defers = a0.defers
  lsize : l.size = ops.size
  closed : ∀ j o, ops[j]? = some o → l.getD j false = true → ∀ e ∈ o.after, Region.binds .any e = true → l.getD e.on false = true
  out : ∀ j, j ∉ L → l.getD j false = l0.getD j false
  new : ∀ j ∈ L, l.getD j false = true → ∀ t, (ops[j]?).bind (·.dst) = some t → (F2 t).p (a.tmps.getD t undef) w
  rel : l.getD s false = false → l.getD x false = true → ∀ p ∈ Y, l.getD p.1 false = true → J (a.tmps.getD tx undef) (a.tmps.getD p.2 undef) w
  newE : l.getD s false = false → ∀ j ∈ L, l.getD j false = true → ∀ t, (ops[j]?).bind (·.dst) = some t → (F t).p (a.tmps.getD t undef) w
  old : ∀ t, (∀ j ∈ L, l.getD j false = true → (ops[j]?).bind (·.dst) ≠ some t) → a.tmps.getD t undef = a0.tmps.getD t undef
theorem Inv.step {x tx : Nat} {Y : List (Nat × Tmp)} {J : Value → Value → World → Prop} {R : World → World → Prop} {G : Act → World → Prop} (hGE : ∀ a w w', Ext w w' → G a w → G a w') {s : Nat} {L : List Nat} {F F2 : Tmp → SP} {C : Array Nat} (hC : certB ops C = true) (hLlt : ∀ j ∈ L, j < ops.size) (hss : s < ops.size) (hself : (C.getD s 0).testBit s = false) {a0 : Act} {w0 : World} {l0 l : Array Bool} {a : Act} {w : World} (hfit : fitB ops C l0 L = true)
    (h : Inv x tx Y J R G s C ops L F F2 a0 w0 l0 l a w) {i : Nat} {o : Oper} (hi : i ∈ L) (ho : ops[i]? = some o) (hr : ∀ e ∈ o.after, Region.binds .any e = true → l.getD e.on false = true)
    {v : Value} {w' : World} (hx : R w0 w') (hex : i ≠ s → Ext w w') (hP : PairOK ops C L s x tx Y J) (hGs : Xt C F G J s x tx Y i a w v w') (hun : l.getD i false = false) (hw2 : ∀ t u w, (F t).p u w → (F2 t).p u w) (hmn2 : ∀ t, o.dst ≠ some t → ∀ u, (i ≠ s → (F2 t).p u w → (F2 t).p u w') ∧ (i = s → (F t).p u w → (F2 t).p u w')) (hmnE : i ≠ s → ∀ t, o.dst ≠ some t → ∀ u, (F t).p u w → (F t).p u w') (hv : ∀ d, o.dst = some d → (F d).p v w') (hu : ∀ d, o.dst = some d → a.tmps.size ≤ d → v = undef) :
    Inv x tx Y J R G s C ops L F F2 a0 w0 l0 (l.setIfInBounds i true) (a.put o.dst v) w' := by
  have hlt : i < ops.size := (Array.getElem?_eq_some_iff.1 ho).1
  have hli : i < l.size := by rw [h.lsize]; exact hlt
  have hone : ∀ j ∈ L, ∀ d, (ops[j]?).bind (·.dst) = some d → o.dst = some d → j = i := by
    intro j hj d h1 h2
    simp only [fitB, Bool.and_eq_true] at hfit
    have hfit := hfit.2
    rw [List.all_eq_true] at hfit
    have hjlt : j < ops.size := by
      rcases Nat.lt_or_ge j ops.size with hh | hh
      · exact hh
      · simp [Array.getElem?_eq_none hh] at h1
    have h3 := hfit j (List.mem_range.2 hjlt)
    rw [List.all_eq_true] at h3
    have h4 := h3 i (List.mem_range.2 hlt)
    simp only [ho, Option.bind_some, h2, h1, Bool.or_eq_true, beq_iff_eq, Bool.not_eq_true', bne_iff_ne, ne_eq, not_true_eq_false, or_false] at h4
    rcases h4 with (h4 | h4) | h4
    · exact h4.symm
    · simp [hi] at h4
    · simp [hj] at h4
  refine ⟨hx, fun hls => ?_, fun hls => ?_, by rw [put_size]; exact h.size, by rw [put_defers']; exact h.defers, by simp [h.lsize], ?_, ?_, ?_, ?_, ?_, ?_⟩
  · rw [getD_set _ _ _ hli] at hls
    simp only [Bool.or_eq_false_iff, beq_eq_false_iff_ne] at hls
    exact (h.early hls.2).trans (hex (fun e => hls.1 e.symm))
  · have hkeep : ∀ t, depB ops C L s t = true → (a.put o.dst v).tmps.getD t undef = a.tmps.getD t undef := by
      intro t ht
      simp only [depB, List.any_eq_true, Bool.and_eq_true, beq_iff_eq] at ht
      obtain ⟨j, hj, hbit, hdst⟩ := ht
      have hne : o.dst ≠ some t := by
        intro e
        have hji := hone j hj t hdst e
        subst hji
        -- j is ahead of s, and not listed
        rw [getD_set _ _ _ hli] at hls
        by_cases hjs : s = j
        · subst hjs
          rw [hself] at hbit; cases hbit
        · simp only [beq_iff_eq, hjs, Bool.or_eq_true, false_or] at hls
          have := ahead_listed hC h.closed j hlt s hss (fun o' ho' e' he' hbb => h.closed s o' ho' hls e' he' hbb) hbit
          rw [hun] at this; cases this
      cases hdd : o.dst with
      | none => rfl
      | some d =>
        have hnd : t ≠ d := fun e => hne (by rw [hdd, e])
        rcases Nat.lt_or_ge d a.tmps.size with hs | hs
        · rw [put_getD _ _ _ _ hs, if_neg hnd]
        · rw [put_getD_ge _ _ _ _ hs]
    rw [getD_set _ _ _ hli] at hls
    by_cases his : i = s
    · exact ⟨a, hGs.1 his, fun t ht => (hkeep t ht).symm⟩
    · have hsi : (s == i) = false := by rw [beq_eq_false_iff_ne]; exact fun e => his e.symm
      rw [hsi, Bool.false_or] at hls
      obtain ⟨a1, g1, g2⟩ := h.post hls
      exact ⟨a1, hGE _ _ _ (hex his) g1, fun t ht => (g2 t ht).trans (hkeep t ht).symm⟩
  · intro j oj hoj hlj e he hb
    rw [getD_set _ _ _ hli] at hlj ⊢
    by_cases hji : j = i
    · subst hji
      rw [ho] at hoj
      injection hoj with hoj
      subst hoj
      simp [hr e he hb]
    · simp only [beq_iff_eq, hji, Bool.or_eq_true, false_or] at hlj
      simp [h.closed j oj hoj hlj e he hb]
  · intro j hj
    rw [getD_set _ _ _ hli]
    have hji : j ≠ i := fun e => hj (e ▸ hi)
    simp [hji, h.out j hj]
  · intro j hj hlj t ht
    rw [getD_set _ _ _ hli] at hlj
    by_cases hd : o.dst = some t
    · have := hone j hj t ht hd
      subst this
      rw [hd]
      rcases Nat.lt_or_ge t a.tmps.size with hs | hs
      · rw [put_getD _ _ _ _ hs, if_pos rfl]
        exact hw2 _ _ _ (hv t hd)
      · rw [put_getD_ge _ _ _ _ hs, Array.getD_eq_getD_getElem?, Array.getElem?_eq_none hs, Option.getD_none, ← hu t hd hs]
        exact hw2 _ _ _ (hv t hd)
    · have hji : j ≠ i := by
        intro e
        subst e
        rw [ho, Option.bind_some] at ht
        exact hd ht
      simp only [beq_iff_eq, hji, Bool.or_eq_true, false_or] at hlj
      have hold : (F2 t).p (a.tmps.getD t undef) w' := by
        by_cases his : i = s
        · subst his; exact (hmn2 t hd _).2 rfl (h.newE hun j hj hlj t ht)
        · exact (hmn2 t hd _).1 his (h.new j hj hlj t ht)
      cases hdd : o.dst with
      | none => exact hold
      | some d =>
        have hne : t ≠ d := fun e => hd (by rw [hdd, e])
        rcases Nat.lt_or_ge d a.tmps.size with hs | hs
        · rw [put_getD _ _ _ _ hs, if_neg hne]; exact hold
        · rw [put_getD_ge _ _ _ _ hs]; exact hold
  · intro hls hlx p hp hly
    have his : i ≠ s := by
      intro e
      rw [getD_set _ _ _ hli, e] at hls
      simp at hls
    have hls' : l.getD s false = false := by
      rw [getD_set _ _ _ hli] at hls
      simp only [Bool.or_eq_false_iff] at hls
      exact hls.2
    rw [getD_set _ _ _ hli] at hlx hly
    have hput : ∀ t, o.dst ≠ some t → (a.put o.dst v).tmps.getD t undef = a.tmps.getD t undef := by
      intro t ht
      cases hdd : o.dst with
      | none => rfl
      | some d =>
        have hnd : t ≠ d := fun e => ht (by rw [hdd, e])
        rcases Nat.lt_or_ge d a.tmps.size with hs | hs
        · rw [put_getD _ _ _ _ hs, if_neg hnd]
        · rw [put_getD_ge _ _ _ _ hs]
    have hown : ∀ d, o.dst = some d → (a.put o.dst v).tmps.getD d undef = v := by
      intro d hd
      rw [hd]
      rcases Nat.lt_or_ge d a.tmps.size with hs | hs
      · rw [put_getD _ _ _ _ hs, if_pos rfl]
      · rw [put_getD_ge _ _ _ _ hs, Array.getD_eq_getD_getElem?, Array.getElem?_eq_none hs, Option.getD_none, ← hu d hd hs]
    obtain ⟨hpx, hpt, hpL, hpd, _⟩ := hP.y p hp
    by_cases hix : i = x
    · have hd : o.dst = some tx := by have := hP.xd; rw [← hix, ho, Option.bind_some] at this; exact this
      have hyx : (p.1 == i) = false := by rw [beq_eq_false_iff_ne, hix]; exact hpx
      rw [hyx, Bool.false_or] at hly
      rw [hown tx hd, hput p.2 (by rw [hd]; intro e; injection e with e; exact hpt e.symm)]
      exact hGs.2.1 hix p hp _ (h.newE hls' p.1 hpL hly p.2 hpd)
    · have hxi : (x == i) = false := by rw [beq_eq_false_iff_ne]; exact fun e => hix e.symm
      rw [hxi, Bool.false_or] at hlx
      by_cases hiy : i = p.1
      · have hd : o.dst = some p.2 := by rw [← hiy, ho, Option.bind_some] at hpd; exact hpd
        rw [hown p.2 hd, hput tx (by rw [hd]; intro e; injection e with e; exact hpt e)]
        refine hGs.2.2 p hp hiy _ (h.newE hls' x hP.xL hlx tx hP.xd) (fun q hq hbit => h.rel hls' hlx q hq ?_)
        exact ahead_listed hC h.closed q.1 (hLlt _ (hP.y q hq).2.2.1) i hlt (fun o' ho' e he hbb => by rw [ho] at ho'; injection ho' with ho'; subst ho'; exact hr e he hbb) hbit
      · have hyi : (p.1 == i) = false := by rw [beq_eq_false_iff_ne]; exact fun e => hiy e.symm
        rw [hyi, Bool.false_or] at hly
        rw [hput tx (fun e => hix (hone x hP.xL tx hP.xd e).symm), hput p.2 (fun e => hiy (hone p.1 hpL p.2 hpd e).symm)]
        exact hP.mono _ _ _ _ (hex his) (h.rel hls' hlx p hp hly)
  · intro hls j hj hlj t ht
    have his : i ≠ s := by
      intro e
      rw [getD_set _ _ _ hli, e] at hls
      simp at hls
    have hls' : l.getD s false = false := by
      rw [getD_set _ _ _ hli] at hls
      simp only [Bool.or_eq_false_iff] at hls
      exact hls.2
    rw [getD_set _ _ _ hli] at hlj
    by_cases hd : o.dst = some t
    · have := hone j hj t ht hd
      subst this
      rw [hd]
      rcases Nat.lt_or_ge t a.tmps.size with hs | hs
      · rw [put_getD _ _ _ _ hs, if_pos rfl]
        exact hv t hd
      · rw [put_getD_ge _ _ _ _ hs, Array.getD_eq_getD_getElem?, Array.getElem?_eq_none hs, Option.getD_none, ← hu t hd hs]
        exact hv t hd
    · have hji : j ≠ i := by
        intro e
        subst e
        rw [ho, Option.bind_some] at ht
        exact hd ht
      simp only [beq_iff_eq, hji, Bool.or_eq_true, false_or] at hlj
      have hold := hmnE his t hd _ (h.newE hls' j hj hlj t ht)
      cases hdd : o.dst with
      | none => exact hold
      | some d =>
        have hne : t ≠ d := fun e => hd (by rw [hdd, e])
        rcases Nat.lt_or_ge d a.tmps.size with hs | hs
        · rw [put_getD _ _ _ _ hs, if_neg hne]; exact hold
        · rw [put_getD_ge _ _ _ _ hs]; exact hold
  · intro t ht
    have hne : o.dst ≠ some t := by
      intro e
      refine ht i hi ?_ (by rw [ho, Option.bind_some, e])
      rw [getD_set _ _ _ hli]
      simp
    have hold : a.tmps.getD t undef = a0.tmps.getD t undef := h.old t fun j hj hlj => ht j hj (by rw [getD_set _ _ _ hli, hlj]; simp)
    rw [← hold]
    cases hdd : o.dst with
    | none => rfl
    | some d =>
      have hne : t ≠ d := fun e => hne (by rw [hdd, e])
      rcases Nat.lt_or_ge d a.tmps.size with hs | hs
      · rw [put_getD _ _ _ _ hs, if_neg hne]
      · rw [put_getD_ge _ _ _ _ hs]
theorem wpAny_flow_aux {x tx : Nat} {Y : List (Nat × Tmp)} {J : Value → Value → World → Prop} {G : Act → World → Prop} (hGE : ∀ a w w', Ext w w' → G a w → G a w') {R : World → World → Prop} {s : Nat} (hRE : ∀ w w', Ext w w' → R w w') (hRT : ∀ {a b c}, R a b → R b c → R a c) (hs : s < ops.size) {L : List Nat} {F F2 : Tmp → SP} {C : Array Nat} {a0 : Act} {w0 : World} {l0 : Array Bool} (hC : certB ops C = true) (hfit : fitB ops C l0 L = true) (hdeps : depsB ops l0 L = true)
    (hrg : rangeB ops a0.tmps.size = true) (hnd : L.Nodup) (hsL : s ∈ L) (hself : (C.getD s 0).testBit s = false) (rest : Nat)
    (hP : PairOK ops C L s x tx Y J) (hw2 : ∀ t u w, (F t).p u w → (F2 t).p u w) (hmono : ∀ t, (ops[s]?).bind (·.dst) ≠ some t → ∀ u w w', R w w' → (F t).p u w → (F2 t).p u w')
    (hop : ∀ i ∈ L, ∀ o, ops[i]? = some o → ∀ a w, Known tx Y J R s ops C L F F2 a0 w0 i a w → Does (if i = s then R else Ext) (Xt C F G J s x tx Y i) P ops Q F o a w)
    (hend : ∀ a w, Ends R G s C ops L F F2 a0 w0 a w → wpAny P .any ops Q rest (marked l0 L) a w) :
    ∀ (m : Nat) (l : Array Bool) (a : Act) (w : World), left l L = m → Inv x tx Y J R G s C ops L F F2 a0 w0 l0 l a w → wpAny P .any ops Q (m + rest) l a w := by
  have hLlt : ∀ i ∈ L, i < ops.size := by
    intro i hi
    simp only [fitB, Bool.and_eq_true, List.all_eq_true] at hfit
    have := hfit.1.1.2 i hi
    simp only [decide_eq_true_eq] at this
    exact this.1
  have hl0s : l0.size = ops.size := by
    simp only [fitB, Bool.and_eq_true, beq_iff_eq] at hfit
    exact hfit.1.1.1
  intro m
  induction m with
  | zero =>
    intro l a w hm h
    have hall : ∀ i ∈ L, l.getD i false = true := by
      intro i hi
      cases hb : l.getD i false with
      | true => rfl
      | false =>
        have := List.countP_eq_zero.1 hm i hi
        rw [hb] at this
        simp at this
    have hl : l = marked l0 L := by
      apply Array.ext
      · rw [marked_size, h.lsize, hl0s]
      · intro j h1 h2
        have hj := marked_getD L l0 (fun i hi => by rw [hl0s]; exact hLlt i hi) j
        have e1 : l.getD j false = l[j] := by rw [Array.getD_eq_getD_getElem?, Array.getElem?_eq_getElem h1, Option.getD_some]
        have e2 : (marked l0 L).getD j false = (marked l0 L)[j] := by rw [Array.getD_eq_getD_getElem?, Array.getElem?_eq_getElem h2, Option.getD_some]
        rw [← e1, ← e2, hj]
        by_cases hjL : j ∈ L
        · simp [hjL, hall j hjL]
        · simp [hjL, h.out j hjL]
    rw [Nat.zero_add, hl]
    refine hend a w ⟨h.ext, h.size, h.defers, h.post (hall s hsL), fun j hj t ht => h.new j hj (hall j hj) t ht, fun t ht => h.old t fun j hj _ e => ?_⟩
    rw [List.all_eq_true] at ht
    have := ht j hj
    rw [e] at this
    simp at this
  | succ m ih =>
    intro l a w hm h
    have hun : ∃ i ∈ L, l.getD i false = false ∧ ∀ j ∈ L, j < i → l.getD j false = true := by
      rcases unlisted l L with h1 | h1
      · have : left l L = 0 := by
          unfold left
          rw [List.countP_eq_zero]
          intro i hi
          rw [h1 i hi]
          simp
        omega
      · exact h1
    have hready : ∀ i ∈ Region.ready .any ops l, i ∈ L := by
      intro i hi
      obtain ⟨o, ho, hb, hd⟩ := mem_ready' hi h.lsize
      apply Classical.byContradiction
      intro hnL
      obtain ⟨k, hk, hkb, _⟩ := hun
      have hilt : i < ops.size := (Array.getElem?_eq_some_iff.1 ho).1
      have hb0 : l0.getD i false = false := by rw [← h.out i hnL]; exact hb
      have hbit : (C.getD i 0).testBit k = true := by
        simp only [fitB, Bool.and_eq_true, List.all_eq_true] at hfit
        have h1 := hfit.1.2 i (List.mem_range.2 hilt)
        simp only [hb0, Bool.false_or, Bool.or_eq_true, List.contains_iff_mem, hnL, false_or, List.all_eq_true] at h1
        exact h1 k hk
      have := ahead_listed hC h.closed k (hLlt k hk) i hilt (fun o' ho' e he hbb => by rw [ho] at ho'; injection ho' with ho'; subst ho'; exact hd e he hbb) hbit
      rw [this] at hkb
      cases hkb
    have hne : Region.ready .any ops l ≠ [] := by
      obtain ⟨k, hk, hkb, hmin⟩ := hun
      have hklt := hLlt k hk
      have hmem : k ∈ Region.ready .any ops l := by
        refine mem_ready.2 ⟨?_, ops[k], Array.getElem?_eq_getElem hklt, fun e he hb => ?_⟩
        · have hkl : k < l.size := by rw [h.lsize]; exact hklt
          rw [Array.getD_eq_getD_getElem?, Array.getElem?_eq_getElem hkl, Option.getD_some] at hkb ⊢
          exact hkb
        · simp only [depsB, List.all_eq_true] at hdeps
          have h1 := hdeps k hk
          rw [Array.getElem?_eq_getElem hklt] at h1
          simp only [Option.map_some, Option.getD_some, Array.all_eq_true_iff_forall_mem] at h1
          have h2 := h1 e he
          simp only [hb, Bool.not_true, Bool.false_or, Bool.or_eq_true, Bool.and_eq_true, List.contains_iff_mem, decide_eq_true_eq] at h2
          rcases h2 with h2 | ⟨h2, h3⟩
          · by_cases hel : e.on ∈ L
            · have helt := hLlt e.on hel
              simp only [fitB, Bool.and_eq_true, List.all_eq_true] at hfit
              have h4 := hfit.1.1.2 e.on hel
              simp [h2] at h4
            · rw [h.out e.on hel]; exact h2
          · exact hmin e.on h2 h3
      intro hnil
      rw [hnil] at hmem
      cases hmem
    rw [show m + 1 + rest = (m + rest) + 1 from by omega]
    refine wpAny_fuel_ready hne fun i hi => ?_
    have hiL := hready i hi
    obtain ⟨o, ho, hb, hd⟩ := mem_ready' hi h.lsize
    have hilt : i < ops.size := (Array.getElem?_eq_some_iff.1 ho).1
    have hleft : left (l.setIfInBounds i true) L = m := by
      have h1 := left_set l i (by rw [h.lsize]; exact hilt) L hnd hiL hb
      omega
    have hdstlt : ∀ d, o.dst = some d → d < a0.tmps.size := by
      intro d hd'
      simp only [rangeB, Array.all_eq_true_iff_forall_mem] at hrg
      have := hrg o (Array.mem_of_getElem? ho)
      rw [hd'] at this
      simpa using this
    have hknown : Known tx Y J R s ops C L F F2 a0 w0 i a w := by
      have hse : (i = s ∨ (C.getD s 0).testBit i = true) → l.getD s false = false := by
        intro hes
        rcases hes with rfl | hes
        · exact hb
        · cases hls : l.getD s false with
          | false => rfl
          | true =>
            have := ahead_listed hC h.closed i hilt s hs (fun o' ho' e he hbb => h.closed s o' ho' hls e he hbb) hes
            rw [hb] at this; cases this
      refine ⟨h.ext, fun hes => h.early (hse hes), h.size, fun t ht => ?_, fun hes t ht => ?_, fun t ht => ?_, fun his => ?_⟩
      · simp only [depB, List.any_eq_true, Bool.and_eq_true, beq_iff_eq] at ht
        obtain ⟨j, hj, hbit, hdst⟩ := ht
        exact h.new j hj (ahead_listed hC h.closed j (hLlt j hj) i hilt (fun o' ho' e he hbb => by rw [ho] at ho'; injection ho' with ho'; subst ho'; exact hd e he hbb) hbit) t hdst
      · simp only [depB, List.any_eq_true, Bool.and_eq_true, beq_iff_eq] at ht
        obtain ⟨j, hj, hbit, hdst⟩ := ht
        exact h.newE (hse hes) j hj (ahead_listed hC h.closed j (hLlt j hj) i hilt (fun o' ho' e he hbb => by rw [ho] at ho'; injection ho' with ho'; subst ho'; exact hd e he hbb) hbit) t hdst
      · refine h.old t fun j hj hlj hdst => ?_
        simp only [oldB, List.all_eq_true] at ht
        have h1 := ht j hj
        simp only [hdst, bne_self_eq_false, Bool.false_or, Bool.or_eq_true, beq_iff_eq] at h1
        rcases h1 with rfl | h1
        · rw [hb] at hlj; cases hlj
        · have hjlt := hLlt j hj
          have := ahead_listed hC h.closed i hilt j hjlt (fun o' ho' e he hbb => h.closed j o' ho' hlj e he hbb) h1
          rw [hb] at this; cases this
      · have hah : ∀ j ∈ L, (C.getD s 0).testBit j = true → l.getD j false = true := fun j hj hbit => by
          subst his
          exact ahead_listed hC h.closed j (hLlt j hj) i hilt (fun o' ho' e he hbb => by rw [ho] at ho'; injection ho' with ho'; subst ho'; exact hd e he hbb) hbit
        exact fun p hp => h.rel (hse (.inl his)) (hah x hP.xL hP.xs) p hp (hah p.1 (hP.y p hp).2.2.1 (hP.y p hp).2.2.2.2)
    have hdoes := hop i hiL o ho a w hknown
    unfold wpOp
    rw [ho]
    unfold Does at hdoes
    show if Region.wanted o (yielded ops a.tmps) = true then _ else _
    split
    · rename_i hw
      rw [if_pos hw] at hdoes
      refine .inl (Oper.wp_mono (fun a' w' hk => ?_) hdoes)
      obtain ⟨v, rfl, hx, hgs, hv⟩ := hk
      have hxR : R w w' := by
        split at hx
        · exact hx
        · exact hRE _ _ hx
      refine ih _ _ _ hleft (h.step hGE hC hLlt hs hself hfit hiL ho hd (hRT h.ext hxR) (fun hne => by rw [if_neg hne] at hx; exact hx) hP hgs hb hw2 (fun t ht u => ⟨fun his hu => ?_, fun his hu => ?_⟩) (fun his t ht u hu => ?_) hv fun d hd' hge => absurd (hdstlt d hd') (Nat.not_lt.2 (h.size ▸ hge)))
      · rw [if_neg his] at hx
        exact (F2 t).mono _ _ _ hx hu
      · subst his
        exact hmono t (by rw [ho]; exact ht) u _ _ hxR hu
      · rw [if_neg his] at hx
        exact (F t).mono _ _ _ hx hu
    · rename_i hw
      rw [if_neg hw] at hdoes
      exact ih _ _ _ hleft (h.step hGE hC hLlt hs hself hfit hiL ho hd h.ext (fun _ => Ext.refl w) hP hdoes.1 hb hw2 (fun t ht u => ⟨fun _ hu => hu, fun _ hu => hw2 _ _ _ hu⟩) (fun _ t ht u hu => hu) hdoes.2 fun d hd' hge => rfl)
theorem wpAny_flow {x tx : Nat} {Y : List (Nat × Tmp)} {J : Value → Value → World → Prop} {G : Act → World → Prop} (hGE : ∀ a w w', Ext w w' → G a w → G a w') {R : World → World → Prop} {s : Nat} (hRE : ∀ w w', Ext w w' → R w w') (hRT : ∀ {a b c}, R a b → R b c → R a c) (hs : s < ops.size) {L : List Nat} {F F2 : Tmp → SP} {C : Array Nat} {a0 : Act} {w0 : World} {l0 : Array Bool} (hC : certB ops C = true) (hcl : closedB ops l0 = true) (hfit : fitB ops C l0 L = true) (hdeps : depsB ops l0 L = true)
    (hrg : rangeB ops a0.tmps.size = true) (hnd : L.Nodup) (hsL : s ∈ L) (hself : (C.getD s 0).testBit s = false) (rest : Nat)
    (hP : PairOK ops C L s x tx Y J) (hw2 : ∀ t u w, (F t).p u w → (F2 t).p u w) (hmono : ∀ t, (ops[s]?).bind (·.dst) ≠ some t → ∀ u w w', R w w' → (F t).p u w → (F2 t).p u w')
    (hop : ∀ i ∈ L, ∀ o, ops[i]? = some o → ∀ a w, Known tx Y J R s ops C L F F2 a0 w0 i a w → Does (if i = s then R else Ext) (Xt C F G J s x tx Y i) P ops Q F o a w)
    (hend : ∀ a w, Ends R G s C ops L F F2 a0 w0 a w → wpAny P .any ops Q rest (marked l0 L) a w) : wpAny P .any ops Q (L.length + rest) l0 a0 w0 := by
  have hl0 : ∀ i ∈ L, l0.getD i false = false := by
    intro i hi
    simp only [fitB, Bool.and_eq_true, List.all_eq_true] at hfit
    have := hfit.1.1.2 i hi
    simp only [Bool.not_eq_true'] at this
    exact this.2
  have hl0s : l0.size = ops.size := by
    simp only [fitB, Bool.and_eq_true, beq_iff_eq] at hfit
    exact hfit.1.1.1
  have hleft : left l0 L = L.length := by
    unfold left
    rw [List.countP_eq_length]
    intro i hi
    rw [hl0 i hi]; rfl
  refine wpAny_flow_aux hGE hRE hRT hs hC hfit hdeps hrg hnd hsL hself rest hP hw2 hmono hop hend L.length l0 a0 w0 hleft ⟨hRE _ _ (Ext.refl _), fun _ => Ext.refl _, fun h => absurd h (by rw [hl0 s hsL]; simp), rfl, rfl, hl0s, ?_, fun _ _ => rfl, fun j hj hlj => ?_, fun _ hlx _ _ _ => ?_, fun _ j hj hlj => ?_, fun _ _ => rfl⟩
  · intro j o ho hlj e he hb
    have hjlt : j < ops.size := (Array.getElem?_eq_some_iff.1 ho).1
    simp only [closedB, List.all_eq_true] at hcl
    have h1 := hcl j (List.mem_range.2 hjlt)
    rw [ho] at h1
    simp only [hlj, Bool.not_true, Bool.false_or, Option.map_some, Option.getD_some, Array.all_eq_true_iff_forall_mem, Bool.or_eq_true, Bool.not_eq_true'] at h1
    rcases h1 e he with h2 | h2
    · rw [hb] at h2; cases h2
    · exact h2
  · rw [hl0 j hj] at hlj; cases hlj
  · rw [hl0 x hP.xL] at hlx; cases hlx
  · rw [hl0 j hj] at hlj; cases hlj
theorem wp_region_flow_tail {x tx : Nat} {Y : List (Nat × Tmp)} {J : Value → Value → World → Prop} {G : Act → World → Prop} (hGE : ∀ a w w', Ext w w' → G a w → G a w') {R : World → World → Prop} {s : Nat} (hRE : ∀ w w', Ext w w' → R w w') (hRT : ∀ {a b c}, R a b → R b c → R a c) (hs : s < ops.size) {id : Nat} {F F2 : Tmp → SP} (C : Array Nat) (m : Nat) {a0 : Act} {w0 : World} (hm : P.follows .mixedOrders = true) (hmn : m ≤ ops.size) (hsm : s < m) (hself : (C.getD s 0).testBit s = false) (hC : certB ops C = true) (ht : tailB ops C m = true)
    (hfit : fitB ops C (Array.replicate ops.size false) (List.range m) = true) (hdeps : depsB ops (Array.replicate ops.size false) (List.range m) = true) (hrg : rangeB ops a0.tmps.size = true)
    (hP : PairOK ops C (List.range m) s x tx Y J) (hw2 : ∀ t u w, (F t).p u w → (F2 t).p u w) (hmono : ∀ t, (ops[s]?).bind (·.dst) ≠ some t → ∀ u w w', R w w' → (F t).p u w → (F2 t).p u w')
    (hop : ∀ i, i < m → ∀ o, ops[i]? = some o → ∀ a w, Known tx Y J R s ops C (List.range m) F F2 a0 { w0 with drawn := w0.drawn + 1 } i a w → Does (if i = s then R else Ext) (Xt C F G J s x tx Y i) P ops Q F o a w)
    (hend : ∀ a w, Ends R G s C ops (List.range m) F F2 a0 { w0 with drawn := w0.drawn + 1 } a w → wpList P ops Q (ops.toList.drop m) a w) : (Code.region id ops true).wp P Q a0 w0 := by
  refine wp_region_any hm ?_
  have h := wpAny_flow hGE hRE hRT hs (P := P) (Q := Q) (ops := ops) (L := List.range m) (F := F) (F2 := F2) (C := C) (a0 := a0) (w0 := { w0 with drawn := w0.drawn + 1 }) (l0 := Array.replicate ops.size false) hC ?_ hfit hdeps hrg List.nodup_range (List.mem_range.2 hsm) hself (ops.size - m) hP hw2 hmono
    (fun i hi o ho a w hk => hop i (List.mem_range.1 hi) o ho a w hk) ?_
  · simpa [show m + (ops.size - m) = ops.size from by omega] using h
  · simp only [closedB, List.all_eq_true]
    intro j _
    have : (Array.replicate ops.size false).getD j false = false := by
      rw [Array.getD_eq_getD_getElem?, Array.getElem?_replicate]
      split <;> rfl
    rw [this]; rfl
  · intro a w he
    rw [marked_range _ _ hmn]
    exact wpAny_tail hC ht _ m (by omega) (Nat.le_refl _) a w (hend a w he)
theorem Ends.out {R : World → World → Prop} {G : Act → World → Prop} {s : Nat} {C : Array Nat} {L : List Nat} {F F2 : Tmp → SP} {a0 : Act} {w0 : World} {a : Act} {w : World} (h : Ends R G s C ops L F F2 a0 w0 a w) (ds : List Nat) (hd : (L.filterMap fun j => (ops[j]?).bind (·.dst)) = ds) :
    ∃ us : Nat → Value, a = ⟨(fillL ds us 0 a0.tmps.toList).toArray, a0.defers⟩ ∧ ∀ t ∈ ds, (F2 t).p (us t) w := by
  refine ⟨fun t => a.tmps.getD t undef, ?_, fun t ht => ?_⟩
  · obtain ⟨tmps, defers⟩ := a
    have h1 := h.size
    have h2 := h.defers
    have h3 := h.old
    simp only at h1 h2 h3
    subst h2
    congr 1
    apply Array.ext
    · simp [fillL_length, h1]
    · intro j j1 j2
      have e : (fillL ds (fun t => tmps.getD t undef) 0 a0.tmps.toList)[j]? = some tmps[j] := by
        rw [fillL_get, Nat.zero_add]
        have hj : j < a0.tmps.size := by rw [← h1]; exact j1
        rw [Array.getElem?_toList, Array.getElem?_eq_getElem hj, Option.map_some]
        have e1 : tmps.getD j undef = tmps[j] := by rw [Array.getD_eq_getD_getElem?, Array.getElem?_eq_getElem j1, Option.getD_some]
        by_cases hc : ds.contains j = true
        · rw [if_pos hc, e1]
        · rw [if_neg hc]
          have h4 := h3 j (by
            rw [List.all_eq_true]
            intro q hq
            rw [bne_iff_ne]
            intro he
            apply hc
            rw [List.contains_iff_mem, ← hd]
            exact List.mem_filterMap.2 ⟨q, hq, he⟩)
          rw [e1, Array.getD_eq_getD_getElem?, Array.getElem?_eq_getElem hj, Option.getD_some] at h4
          rw [h4]
      rw [List.getElem_toArray]
      have := (List.getElem?_eq_some_iff.1 e).2
      exact this.symm
  · rw [← hd] at ht
    obtain ⟨j, hj, hjd⟩ := List.mem_filterMap.1 ht
    exact h.new j hj t hjd
def OpsDo (x tx : Nat) (Y : List (Nat × Tmp)) (J : Value → Value → World → Prop) (G : Act → World → Prop) (R : World → World → Prop) (s : Nat) (P : Program) (ops : Array Oper) (Q : Exit → Act → World → Prop) (C : Array Nat) (L : List Nat) (F F2 : Tmp → SP) (a0 : Act) (w0 : World) : Nat → List Oper → Prop
  | _, [] => True
  | i, o :: l => (∀ a w, Known tx Y J R s ops C L F F2 a0 w0 i a w → Does (if i = s then R else Ext) (Xt C F G J s x tx Y i) P ops Q F o a w) ∧ OpsDo x tx Y J G R s P ops Q C L F F2 a0 w0 (i + 1) l
theorem OpsDo.at_ {x tx : Nat} {Y : List (Nat × Tmp)} {J : Value → Value → World → Prop} {G : Act → World → Prop} {R : World → World → Prop} {s : Nat} {C : Array Nat} {L : List Nat} {F F2 : Tmp → SP} {a0 : Act} {w0 : World} : ∀ (l : List Oper) (k : Nat), OpsDo x tx Y J G R s P ops Q C L F F2 a0 w0 k l → ∀ i o, l[i]? = some o → ∀ a w, Known tx Y J R s ops C L F F2 a0 w0 (k + i) a w → Does (if k + i = s then R else Ext) (Xt C F G J s x tx Y (k + i)) P ops Q F o a w
  | [], _, _, i, o, h => by simp at h
  | x :: l, k, h, 0, o, ho => by
    intro a w hk
    obtain rfl : x = o := by simpa using ho
    exact h.1 a w hk
  | x :: l, k, h, i + 1, o, ho => by
    intro a w hk
    have := OpsDo.at_ l (k + 1) h.2 i o (by simpa using ho) a w (by rw [Nat.add_right_comm]; exact hk)
    rw [Nat.add_right_comm] at this; exact this
theorem wp_region_flow_l {x tx : Nat} {Y : List (Nat × Tmp)} {J : Value → Value → World → Prop} {G : Act → World → Prop} (hGE : ∀ a w w', Ext w w' → G a w → G a w') {R : World → World → Prop} (s : Nat) (hRE : ∀ w w', Ext w w' → R w w') (hRT : ∀ {a b c}, R a b → R b c → R a c) {id : Nat} (F F2 : Tmp → SP) (m : Nat) {a0 : Act} {w0 : World} (hm : P.follows .mixedOrders = true) (n : Nat) (hn : a0.tmps.size = n) (hB : flowB ops m n = true)
    (hs : s < ops.size) (hsm : s < m) (hself : ((Region.before ops).getD s 0).testBit s = false) (hP : PairOK ops (Region.before ops) (List.range m) s x tx Y J) (hw2 : ∀ t u w, (F t).p u w → (F2 t).p u w) (hmono : ∀ t, (ops[s]?).bind (·.dst) ≠ some t → ∀ u w w', R w w' → (F t).p u w → (F2 t).p u w')
    (hop : OpsDo x tx Y J G R s P ops Q (Region.before ops) (List.range m) F F2 a0 w0.drew 0 (ops.toList.take m))
    (hend : ∀ a w, Ends R G s (Region.before ops) ops (List.range m) F F2 a0 w0.drew a w → wpList P ops Q (ops.toList.drop m) a w) : (Code.region id ops true).wp P Q a0 w0 := by
  simp only [flowB, Bool.and_eq_true, decide_eq_true_eq] at hB
  obtain ⟨⟨⟨⟨⟨h1, h2⟩, h3⟩, h4⟩, h5⟩, h6⟩ := hB
  exact wp_region_flow_tail hGE hRE hRT hs (Region.before ops) m hm h1 hsm hself h2 h3 h4 h5 (by rw [hn]; exact h6) hP hw2 hmono (fun i hi o ho a w hk => by have := OpsDo.at_ (ops.toList.take m) 0 hop i o (by rw [List.getElem?_take]; simpa [hi] using ho) a w (by rw [Nat.zero_add]; exact hk); rw [Nat.zero_add] at this; exact this) hend
theorem does_intro {Rl : World → World → Prop} {G : Act → World → Value → World → Prop} {F : Tmp → SP} {o : Oper} {a : Act} {w : World} (hg : Region.wanted o (yielded ops a.tmps) = true)
    (h : ∀ K : Act → World → Prop, (∀ v w', Rl w w' → G a w v w' → (∀ d, o.dst = some d → (F d).p v w') → K (a.put o.dst v) w') → o.wp P a w K Q) : Does Rl G P ops Q F o a w := by
  unfold Does
  rw [if_pos hg]
  exact h _ fun v w' h1 hg h2 => ⟨v, rfl, h1, hg, h2⟩
def over : List (Tmp × SP) → (Tmp → SP) → Tmp → SP
  | [], F, t => F t
  | (k, q) :: l, F, t => cond (Nat.beq t k) q (over l F t)
theorem over_weak {F : Tmp → SP} : ∀ {l : List (Tmp × SP)}, (∀ x ∈ l, ∀ u w, (F x.1).p u w → x.2.p u w) → ∀ t u w, (F t).p u w → (over l F t).p u w
  | [], _, t, u, w, h => h
  | (k, q) :: l, hl, t, u, w, h => by
    unfold over
    cases hb : Nat.beq t k with
    | true =>
      obtain rfl := Nat.eq_of_beq_eq_true hb
      exact hl (t, q) (by simp) u w h
    | false => exact over_weak (fun x hx => hl x (by simp [hx])) t u w h
end FlowJ
end Go.Proofs.Ytgkgedjmnbjalaa
set_option linter.unusedSimpArgs false
namespace Go.Proofs.Ytgkgedjmnbjalaa
open Go.RowKit Go.Sort
def spTup (S : Nat → Prop) (r : T × Int) : SP := ⟨fun v w => ∃ c : List Value, v = .tuple #[.agg c.toArray, .int .i64 r.2] ∧ RT S w r.1 c, fun _ _ _ hx ⟨c, e, h⟩ => ⟨c, e, h.ext hx⟩⟩
def spAgg (S : Nat → Prop) (r : T × Int) : SP := ⟨fun v w => ∃ c : List Value, v = .agg c.toArray ∧ RT S w r.1 c, fun _ _ _ hx ⟨c, e, h⟩ => ⟨c, e, h.ext hx⟩⟩
def spForm (r : T × Int) : SP := ⟨fun v _ => ∃ c : List Value, v = .tuple #[.agg c.toArray, .int .i64 r.2], fun _ _ _ _ h => h⟩
def JR (S : Nat → Prop) (r : T × Int) (u v : Value) (w : World) : Prop := ∀ D (c : List Value), u = .pointer (some ⟨D, 0, none⟩) → (v = .tuple #[.agg c.toArray, .int .i64 r.2] ∨ v = .agg c.toArray) → RT (fun b => S b ∧ b ≠ D) w r.1 c
theorem jr_mono (S : Nat → Prop) (r : T × Int) : ∀ u u' w w', Ext w w' → JR S r u u' w → JR S r u u' w' := fun _ _ _ _ hx h D c h1 h2 => (h D c h1 h2).ext hx
theorem agg_inj {c d : List Value} (h : Value.agg c.toArray = .agg d.toArray) : c = d := by injection h with h; simpa using h
theorem tup_inj {c d : List Value} {x y : Value} (h : Value.tuple #[.agg c.toArray, x] = .tuple #[.agg d.toArray, y]) : c = d := by
  injection h with h
  simp at h
  exact h.1
theorem jr_call {S : Nat → Prop} {r : T × Int} {B : Nat} {w w' : World} {c : List Value} (hS : ∀ b, B ≤ b → S b) (hB : B ≤ w.heap.size) (h : RT (fun b => (S b ∧ b < B) ∨ w.heap.size ≤ b) w' r.1 c) {u : Value} (hu : (spBoxE B).p u w) : JR S r u (.tuple #[.agg c.toArray, .int .i64 r.2]) w' := by
  intro D d h1 h2
  obtain ⟨D', rfl, hD, cc, hb, _⟩ := hu
  have hlt := hb.lt
  obtain rfl : D' = D := by injection h1 with h1; injection h1 with h1; injection h1
  rcases h2 with h2 | h2
  · obtain rfl := tup_inj h2
    exact h.mono fun b _ hb => by
      rcases hb with ⟨h3, h4⟩ | h3
      · exact ⟨h3, by omega⟩
      · exact ⟨hS b (by omega), by omega⟩
  · cases h2
theorem jr_alloc {S : Nat → Prop} {r : T × Int} {w : World} {o : Obj} {v : Value} (h : (spTup S r).p v w ∨ (spAgg S r).p v w) : JR S r (.pointer (some ⟨w.heap.size, 0, none⟩)) v (w.alloc o) := by
  intro D d h1 h2
  obtain rfl : w.heap.size = D := by injection h1 with h1; injection h1 with h1; injection h1
  have hd : RT S w r.1 d := by
    rcases h with ⟨c, rfl, h⟩ | ⟨c, rfl, h⟩
    · rcases h2 with h2 | h2
      · rw [← tup_inj h2]; exact h
      · cases h2
    · rcases h2 with h2 | h2
      · cases h2
      · rw [← agg_inj h2]; exact h
  exact (hd.mono fun b hb hs => ⟨hs, Nat.ne_of_lt hb⟩).ext (Ext.alloc _ _)
theorem jr_take {S : Nat → Prop} {r : T × Int} {w : World} {u : Value} {c : List Value} (h : JR S r u (.tuple #[.agg c.toArray, .int .i64 r.2]) w) : JR S r u (.agg c.toArray) w := by
  intro D d h1 h2
  rcases h2 with h2 | h2
  · cases h2
  · rw [← agg_inj h2]; exact h D c h1 (.inl rfl)
theorem xt_no {C : Array Nat} {F : Tmp → SP} {G : Act → World → Prop} {J : Value → Value → World → Prop} {s x tx : Nat} {Y : List (Nat × Tmp)} {i : Nat} {a : Act} {w : World} {v : Value} {w' : World} (h1 : i ≠ s) (h2 : i ≠ x) (h3 : (Y.all fun p => p.1 != i) = true) : FlowJ.Xt C F G J s x tx Y i a w v w' :=
  ⟨fun h => absurd h h1, fun h => absurd h h2, fun p hp h => by
    rw [List.all_eq_true] at h3
    have := h3 p hp
    rw [← h] at this
    simp at this⟩
theorem over_ne {k : Tmp} {q : SP} {l : List (Tmp × SP)} {F : Tmp → SP} {t : Tmp} (h : t ≠ k) : FlowJ.over ((k, q) :: l) F t = FlowJ.over l F t := by
  have hb : Nat.beq t k = false := by
    cases hb : Nat.beq t k
    · rfl
    · exact absurd (Nat.eq_of_beq_eq_true hb) h
  rw [FlowJ.over, hb]
  rfl
def GB (tx : Nat) (S : Nat → Prop) (r : T × Int) (a : Act) (w : World) : Prop := ∀ D, a.tmps.getD tx undef = .pointer (some ⟨D, 0, none⟩) → ∃ c : List Value, Blk w D c 54 ∧ RT (fun b => S b ∧ b ≠ D) w r.1 c
theorem gb_ext (tx : Nat) (S : Nat → Prop) (r : T × Int) : ∀ a w w', Ext w w' → GB tx S r a w → GB tx S r a w' := fun a w w' hx h D hD => by
  obtain ⟨c, h1, h2⟩ := h D hD
  exact ⟨c, h1.ext hx, h2.ext hx⟩
end Go.Proofs.Ytgkgedjmnbjalaa
set_option linter.unusedSimpArgs false
namespace Go.Proofs.Ytgkgedjmnbjalaa
open Go.RowKit Go.Sort
set_option maxRecDepth 100000 in
set_option maxHeartbeats 4000000 in
theorem ref_apply (n : T) (es : List E) (S S' : Nat → Prop) (w : World) (c : List Value) (A : Option Addr) (ac : Nat) (h : RT S w n c) (he : ERow S' w A es ac) (hsz : n.size + sizeE es ≤ 1048576) :
    Calls Try.prog 56 #[.agg c.toArray, .slice A es.length ac] w (Ret fun w' v => ∃ c' : List Value, v = .tuple #[.agg c'.toArray, .int .i64 (applyT n es 0).2.1, .int .i64 ((applyT n es 0).2.2 : Nat)] ∧ RT (fun _ => True) w' (applyT n es 0).1 c' ∧ Ext w w') := by
  obtain ⟨Kn, kn, rfl, _⟩ := h.row
  have kr := Hd.mk h
  have ke := Hd.mk he
  have hl1 := he.len
  replace hsz := Hd.mk hsz
  generalize hr0 : applyT n es 0 = r
  replace hr0 := Hd.mk hr0
  clear h he
  simp only [cT] at kr ⊢
  go_enter Try.func56, Try.ntmps56
  go_wp2_with fail
  have kx := Hd.mk ((Ext.alloc w (.cells #[.string n.name, .string n.key, .int .i64 n.kind, .int .u64 n.num, .string n.text, .slice Kn n.kids.length kn] 54)).trans (Ext.alloc _ (.cells #[.string ⟨#[]⟩, .string ⟨#[]⟩, .int .i64 0, .int .u64 0, .string ⟨#[]⟩, .slice none 0 0] 54)))
  have kN := Hd.mk ((Blk.new w #[.string n.name, .string n.key, .int .i64 n.kind, .int .u64 n.num, .string n.text, .slice Kn n.kids.length kn] 54).alloc (.cells #[.string ⟨#[]⟩, .string ⟨#[]⟩, .int .i64 0, .int .u64 0, .string ⟨#[]⟩, .slice none 0 0] 54))
  have kR := Hd.mk (Blk.new2 w (.cells #[.string n.name, .string n.key, .int .i64 n.kind, .int .u64 n.num, .string n.text, .slice Kn n.kids.length kn] 54) #[.string ⟨#[]⟩, .string ⟨#[]⟩, .int .i64 0, .int .u64 0, .string ⟨#[]⟩, .slice none 0 0] 54)
  have kM := Hd.mk ((kr.out.mono (S' := fun b => b ≠ w.heap.size ∧ b ≠ w.heap.size + 1) (fun b hb _ => ⟨by omega, by omega⟩)).ext kx.out)
  generalize (w.alloc _).alloc _ = W at *
  generalize hp : w.heap.size = p at *
  replace hp := Hd.mk hp
  clear kr
  go_loopg [7] (es.length + 1) (fun q i wr => ∃ j : Nat, j ≤ es.length ∧ Hd (q = es.length + 1 - j) ∧ i = .int .i64 j ∧ ∃ (m : T) (Km : Option Addr) (km : Nat), Hd (applyT m (es.drop j) j = r) ∧ Hd (m.size + sizeE (es.drop j) ≤ 1048576) ∧ Hd (Blk wr p [.string m.name, .string m.key, .int .i64 m.kind, .int .u64 m.num, .string m.text, .slice Km m.kids.length km] 54) ∧ Hd (Blk wr (p + 1) [.string ⟨#[]⟩, .string ⟨#[]⟩, .int .i64 0, .int .u64 0, .string ⟨#[]⟩, .slice none 0 0] 54) ∧ Hd (RT (fun b => b ≠ p ∧ b ≠ p + 1) wr m [.string m.name, .string m.key, .int .i64 m.kind, .int .u64 m.num, .string m.text, .slice Km m.kids.length km]) ∧ Hd (Ext w wr))
  case atStart => exact ⟨0, by omega, ⟨by omega⟩, rfl, n, Kn, kn, hr0, hsz, kN, kR, kM, kx⟩
  case round =>
  clear kN kR kM kx hr0 hsz
  obtain ⟨j, hj, hq, rfl, m, Km, km, hr0, hsz, kN, kR, kM, kx⟩ := hrel
  by_cases hlt : j < es.length
  · have hx1 := List.getElem?_eq_getElem hlt
    generalize es[j] = e at hx1
    obtain ⟨b1, o1, ck, rfl, _, hrk, hck⟩ := ke.out.edit j e hx1
    have hs1 := Hd.mk (sizeE_drop hx1)
    have hap := Hd.mk (applyT_drop (n := m) hx1)
    have hrE := Hd.mk hrk
    obtain ⟨A1, a1, K3, k3, L3, l3, rfl, _⟩ := hrk
    simp only [cT, List.cons_append, List.nil_append] at hck hrE
    have kEd := Hd.mk (fun (q : Nat) u hq => Ext.cell kx.out (hck q u hq))
    have hrec := Hd.mk (fun W' (hx : Ext wr W') => refOne m e (fun b => (fun b => b ≠ p ∧ b ≠ p + 1) b ∧ b < wr.heap.size) W' _ _ ((kM.out.mono fun b hb hs => ⟨hs, hb⟩).ext hx) ((hrE.out.mono (S' := fun b => (fun b => b ≠ p ∧ b ≠ p + 1) b ∧ b < wr.heap.size) fun b hb _ => ⟨by have := hp.out; exact ⟨by omega, by omega⟩, Nat.lt_of_lt_of_le hb kx.out.size⟩).ext (kx.out.trans hx)) (by have := hsz.out; have := hs1.out; omega))
    have hsq := Hd.mk (fun m' => oneT_size (n := m) (e := e) (m := m'))
    generalize hon : oneT m e = r1 at *
    replace hon := Hd.mk hon
    clear hck hx1
    have hlt0 : (j : Int) < (es.length : Int) := by omega
    have hgN := Hd.mk kR.out.lt
    have hSx := Hd.mk (show ∀ b, wr.heap.size ≤ b → (fun b => b ≠ p ∧ b ≠ p + 1) b from fun b hb => ⟨by have := hgN.out; omega, by have := hgN.out; omega⟩)
    go_wp2_with fail
    refine FlowJ.wp_region_flow_l (x := 9) (tx := 8) (Y := [(5, 22), (6, 16), (7, 23)]) (J := JR (fun b => b ≠ p ∧ b ≠ p + 1) r1) (G := GB 8 (fun b => b ≠ p ∧ b ≠ p + 1) r1) (gb_ext _ _ _) (R := Rb wr.heap.size) 10 (fun _ _ h => rb_ext h) (fun h k => rb_trans h k) (fun qq => match qq with
      | 17 => SP.eq (.agg #[.string m.name, .string m.key, .int .i64 m.kind, .int .u64 m.num, .string m.text, .slice Km m.kids.length km])
      | 18 => SP.eq (.slice (some ⟨b1, o1, none⟩) es.length ac)
      | 19 => SP.eq (.int .i64 (j : Nat))
      | 20 => SP.eq (.pointer (some ⟨b1, o1 + j * 14, none⟩))
      | 21 => SP.eq (.agg #[.int .i64 e.kind, .slice A1 e.way.length a1, .string e.node.name, .string e.node.key, .int .i64 e.node.kind, .int .u64 e.node.num, .string e.node.text, .slice K3 e.node.kids.length k3, .string e.old.name, .string e.old.key, .int .i64 e.old.kind, .int .u64 e.old.num, .string e.old.text, .slice L3 e.old.kids.length l3])
      | 22 => spTup (fun b => b ≠ p ∧ b ≠ p + 1) r1
      | 16 => spTup (fun b => b ≠ p ∧ b ≠ p + 1) r1
      | 23 => spAgg (fun b => b ≠ p ∧ b ≠ p + 1) r1
      | 24 => SP.eq (.int .i64 r1.2)
      | 8 => spBoxE wr.heap.size
      | _ => SP.any) (FlowJ.over [(22, spForm r1), (16, spForm r1), (23, SP.any)] (fun qq => match qq with
      | 17 => SP.eq (.agg #[.string m.name, .string m.key, .int .i64 m.kind, .int .u64 m.num, .string m.text, .slice Km m.kids.length km])
      | 18 => SP.eq (.slice (some ⟨b1, o1, none⟩) es.length ac)
      | 19 => SP.eq (.int .i64 (j : Nat))
      | 20 => SP.eq (.pointer (some ⟨b1, o1 + j * 14, none⟩))
      | 21 => SP.eq (.agg #[.int .i64 e.kind, .slice A1 e.way.length a1, .string e.node.name, .string e.node.key, .int .i64 e.node.kind, .int .u64 e.node.num, .string e.node.text, .slice K3 e.node.kids.length k3, .string e.old.name, .string e.old.key, .int .i64 e.old.kind, .int .u64 e.old.num, .string e.old.text, .slice L3 e.old.kids.length l3])
      | 22 => spTup (fun b => b ≠ p ∧ b ≠ p + 1) r1
      | 16 => spTup (fun b => b ≠ p ∧ b ≠ p + 1) r1
      | 23 => spAgg (fun b => b ≠ p ∧ b ≠ p + 1) r1
      | 24 => SP.eq (.int .i64 r1.2)
      | 8 => spBoxE wr.heap.size
      | _ => SP.any)) 11 (by kernel_rfl) 32 rfl (by kernel_rfl) (of_decide_eq_true (by kernel_rfl)) (by decide) (by kernel_rfl) ?_ ?_ ?_ ?_ ?_
    · refine ⟨by decide, rfl, by kernel_rfl, ?_, jr_mono _ _⟩
      intro q hq
      simp only [List.mem_cons, List.not_mem_nil, or_false] at hq
      rcases hq with rfl | rfl | rfl
      all_goals exact ⟨by decide, by decide, by decide, rfl, by kernel_rfl⟩
    · refine FlowJ.over_weak (fun q hq => ?_)
      simp only [List.mem_cons, List.not_mem_nil, or_false] at hq
      rcases hq with rfl | rfl | rfl
      · exact fun u v1 ⟨c, e, _⟩ => ⟨c, e⟩
      · exact fun u v1 ⟨c, e, _⟩ => ⟨c, e⟩
      · exact fun u v1 _ => trivial
    · intro q hq u' v1 v2 hR
      by_cases q1 : q = 22
      · subst q1; exact fun ⟨c, e, _⟩ => ⟨c, e⟩
      by_cases q2 : q = 16
      · subst q2; exact fun ⟨c, e, _⟩ => ⟨c, e⟩
      by_cases q3 : q = 23
      · subst q3; exact fun _ => trivial
      rw [over_ne q1, over_ne q2, over_ne q3]
      simp only [FlowJ.over]
      split
      all_goals first | exact fun h => h | exact absurd rfl q1 | exact absurd rfl q2 | exact absurd rfl q3 | exact fun ⟨D, e, h1, c, hb, hc⟩ => ⟨D, e, h1, hR.2.2 D c hb hc⟩
    · refine ⟨?_, ?_, ?_, ?_, ?_, ?_, ?_, ?_, ?_, ?_, ?_, trivial⟩
      · intro act W2 hk
        refine FlowJ.does_intro rfl (fun Kq hK => ?_)
        have e2 : act.tmps[2]?.getD undef = .pointer (some ⟨p, 0, none⟩) := hk.o 2 (by kernel_rfl)
        have g := ((kN.out).ext ((Ext.drew wr).trans (hk.early (.inr (by kernel_rfl))))).cell
        clear hk
        go_simp
        exact hK _ _ (Ext.refl _) (xt_no (by decide) (by decide) (by decide)) (fun d hd => by cases hd; first | rfl | (simp [SP.eq]; omega))
      · intro act W2 hk
        refine FlowJ.does_intro rfl (fun Kq hK => ?_)
        have e1 : act.tmps[1]?.getD undef = .slice (some ⟨b1, o1, none⟩) es.length ac := hk.o 1 (by kernel_rfl)
        clear hk
        go_simp
        exact hK _ _ (Ext.refl _) (xt_no (by decide) (by decide) (by decide)) (fun d hd => by cases hd; first | rfl | (simp [SP.eq]; omega))
      · intro act W2 hk
        refine FlowJ.does_intro rfl (fun Kq hK => ?_)
        have e7 : act.tmps[7]?.getD undef = .int .i64 (j : Nat) := hk.o 7 (by kernel_rfl)
        clear hk
        go_simp
        exact hK _ _ (Ext.refl _) (xt_no (by decide) (by decide) (by decide)) (fun d hd => by cases hd; first | rfl | (simp [SP.eq]; omega))
      · intro act W2 hk
        refine FlowJ.does_intro rfl (fun Kq hK => ?_)
        have e18 : act.tmps[18]?.getD undef = .slice (some ⟨b1, o1, none⟩) es.length ac := hk.ve 18 (by kernel_rfl) (by kernel_rfl)
        have e19 : act.tmps[19]?.getD undef = .int .i64 (j : Nat) := hk.ve 19 (by kernel_rfl) (by kernel_rfl)
        clear hk
        go_simp
        exact hK _ _ (Ext.refl _) (xt_no (by decide) (by decide) (by decide)) (fun d hd => by cases hd; first | rfl | (simp [SP.eq]; omega))
      · intro act W2 hk
        refine FlowJ.does_intro rfl (fun Kq hK => ?_)
        have e20 : act.tmps[20]?.getD undef = .pointer (some ⟨b1, o1 + j * 14, none⟩) := hk.ve 20 (by kernel_rfl) (by kernel_rfl)
        obtain ⟨g0, g1, g2, g3, g4, g5, g6, g7, g8, g9, g10, g11, g12, g13⟩ := c14C ((Ext.drew wr).trans (hk.early (.inr (by kernel_rfl)))) kEd.out
        clear hk
        go_simp
        exact hK _ _ (Ext.refl _) (xt_no (by decide) (by decide) (by decide)) (fun d hd => by cases hd; first | rfl | (simp [SP.eq]; omega))
      · intro act W2 hk
        refine FlowJ.does_intro rfl (fun Kq hK => ?_)
        have e17 : act.tmps[17]?.getD undef = .agg #[.string m.name, .string m.key, .int .i64 m.kind, .int .u64 m.num, .string m.text, .slice Km m.kids.length km] := hk.ve 17 (by kernel_rfl) (by kernel_rfl)
        have e21 : act.tmps[21]?.getD undef = .agg #[.int .i64 e.kind, .slice A1 e.way.length a1, .string e.node.name, .string e.node.key, .int .i64 e.node.kind, .int .u64 e.node.num, .string e.node.text, .slice K3 e.node.kids.length k3, .string e.old.name, .string e.old.key, .int .i64 e.old.kind, .int .u64 e.old.num, .string e.old.text, .slice L3 e.old.kids.length l3] := hk.ve 21 (by kernel_rfl) (by kernel_rfl)
        have hx0 := Hd.mk ((Ext.drew wr).trans (hk.early (.inr (by kernel_rfl))))
        clear hk
        go_simp
        refine Calls.mono (hrec.out W2 hx0.out) ?_
        rintro e W3 ⟨_, rfl, c9, rfl, hr9, hx⟩
        exact hK _ _ hx ⟨fun h => absurd h (by decide), fun h => absurd h (by decide), fun q hq h u hu _ => jr_call hSx.out hx0.out.size hr9 hu⟩ (fun d hd => by cases hd; exact ⟨c9, rfl, hr9.mono fun b _ hb => by rcases hb with hb | hb; exact hb.1; exact hSx.out b (Nat.le_trans hx0.out.size hb)⟩)
      · intro act W2 hk
        refine FlowJ.does_intro rfl (fun Kq hK => ?_)
        obtain ⟨c9, e22, hr9⟩ := (hk.ve 22 (by kernel_rfl) (by kernel_rfl) : (spTup (fun b => b ≠ p ∧ b ≠ p + 1) r1).p _ _)
        clear hk
        go_simp
        refine hK _ _ (Ext.refl _) ⟨fun h => absurd h (by decide), fun h => absurd h (by decide), fun q hq h u hu hj => ?_⟩ (fun d hd => by cases hd; exact ⟨c9, rfl, hr9⟩)
        have h1 := hj (5, 22) (by simp) (by kernel_rfl)
        rw [Array.getD_eq_getD_getElem?] at h1
        rw [e22] at h1
        exact h1
      · intro act W2 hk
        refine FlowJ.does_intro rfl (fun Kq hK => ?_)
        obtain ⟨c9, e16, hr9⟩ := (hk.ve 16 (by kernel_rfl) (by kernel_rfl) : (spTup (fun b => b ≠ p ∧ b ≠ p + 1) r1).p _ _)
        clear hk
        go_simp
        refine hK _ _ (Ext.refl _) ⟨fun h => absurd h (by decide), fun h => absurd h (by decide), fun q hq h u hu hj => ?_⟩ (fun d hd => by cases hd; exact ⟨c9, rfl, hr9⟩)
        have h1 := hj (6, 16) (by simp) (by kernel_rfl)
        rw [Array.getD_eq_getD_getElem?] at h1
        rw [e16] at h1
        exact jr_take h1
      · intro act W2 hk
        refine FlowJ.does_intro rfl (fun Kq hK => ?_)
        obtain ⟨c9, e16⟩ := (hk.v 16 (by kernel_rfl) : (spForm r1).p _ _)
        clear hk
        go_simp
        exact hK _ _ (Ext.refl _) (xt_no (by decide) (by decide) (by decide)) (fun d hd => by cases hd; first | rfl | (simp [SP.eq]; omega))
      · intro act W2 hk
        refine FlowJ.does_intro rfl (fun Kq hK => ?_)
        have hx0 := Hd.mk ((Ext.drew wr).trans (hk.early (.inr (by kernel_rfl))))
        clear hk
        go_simp
        refine hK _ _ (Ext.alloc _ _) ⟨fun h => absurd h (by decide), fun h q hq u hu => ?_, fun q hq h => ?_⟩ (fun d hd => by cases hd; exact ⟨_, rfl, hx0.out.size, _, Blk.new _ _ _, rfl⟩)
        · simp only [List.mem_cons, List.not_mem_nil, or_false] at hq
          rcases hq with rfl | rfl | rfl
          · exact jr_alloc (.inl hu)
          · exact jr_alloc (.inl hu)
          · exact jr_alloc (.inr hu)
        · simp only [List.mem_cons, List.not_mem_nil, or_false] at hq
          rcases hq with rfl | rfl | rfl <;> cases h
      · intro act W2 hk
        refine FlowJ.does_intro rfl (fun Kq hK => ?_)
        obtain ⟨c9, e23, hr9⟩ := (hk.ve 23 (by kernel_rfl) (by kernel_rfl) : (spAgg (fun b => b ≠ p ∧ b ≠ p + 1) r1).p _ _)
        obtain ⟨D, e8, hDn, cD, hD, hc6⟩ := (hk.ve 8 (by kernel_rfl) (by kernel_rfl) : (spBoxE _).p _ _)
        have hrel := hk.rel rfl (7, 23) (by simp)
        simp only [Array.getD_eq_getD_getElem?] at hrel
        rw [e23, e8] at hrel
        have hrt := Hd.mk (hrel D c9 rfl (.inr rfl))
        clear hrel hk
        obtain ⟨Ku, ku, rfl, _⟩ := hr9.row
        simp only [cT] at hrt e23
        clear hr9
        obtain ⟨x0, x1, x2, x3, x4, x5, rfl⟩ : ∃ x0 x1 x2 x3 x4 x5, cD = [x0, x1, x2, x3, x4, x5] := by match cD, hc6 with | [a, b, c, d, e, f], _ => exact ⟨a, b, c, d, e, f, rfl⟩
        have kD := Hd.mk hD
        have eA := Hd.mk e8
        have gD := kD.out.cell
        have fD := kD.out.free
        clear hD
        go_simp
        have hu := ((((((Upd.setCell W2 ⟨D, 0, none⟩ (.string r1.1.name)).trans (Upd.setCell _ ⟨D, 1, none⟩ (.string r1.1.key))).trans (Upd.setCell _ ⟨D, 2, none⟩ (.int .i64 r1.1.kind))).trans (Upd.setCell _ ⟨D, 3, none⟩ (.int .u64 r1.1.num))).trans (Upd.setCell _ ⟨D, 4, none⟩ (.string r1.1.text))).trans (Upd.setCell _ ⟨D, 5, none⟩ (.slice Ku r1.1.kids.length ku)))
        have kDn := ((((((kD.out.setCell 0 (.string r1.1.name)).setCell 1 (.string r1.1.key)).setCell 2 (.int .i64 r1.1.kind)).setCell 3 (.int .u64 r1.1.num)).setCell 4 (.string r1.1.text)).setCell 5 (.slice Ku r1.1.kids.length ku))
        refine hK undef _ (rb_upd hDn hu ⟨_, kDn, rfl⟩) ⟨fun _ D2 hD2 => ?_, fun h => absurd h (by decide), fun q hq h => ?_⟩ (fun d hd => by cases hd)
        · have e9b := eA.out
          rw [Array.getD_eq_getD_getElem?] at hD2
          rw [e9b] at hD2
          cases hD2
          exact ⟨_, kDn, hrt.out.upd hu (fun h => h.2 rfl)⟩
        · simp only [List.mem_cons, List.not_mem_nil, or_false] at hq
          rcases hq with rfl | rfl | rfl <;> cases h
    · intro act V2 he
      have hxV2 := Hd.mk (rb_below (rb_trans (rb_ext (Ext.drew wr)) he.ext))
      obtain ⟨a1, hG1, hG2⟩ := he.post
      have hG9 := hG2 8 (by kernel_rfl)
      obtain ⟨us, hA, hF⟩ := he.out [17, 18, 19, 20, 21, 22, 16, 23, 24, 8] (by kernel_rfl)
      simp only [Flow.fillL, List.contains_cons, List.contains_nil, Nat.reduceBEq, Bool.or_false, Bool.false_or, Bool.or_true, Bool.true_or, ↓reduceIte, Nat.reduceAdd, Bool.false_eq_true] at hA
      subst hA
      have f1 : us 24 = .int .i64 r1.2 := hF 24 (by simp)
      have f2 : (spBoxE wr.heap.size).p (us 8) V2 := hF 8 (by simp)
      clear hF he
      rw [f1]
      have hG9b : a1.tmps.getD 8 undef = us 8 := hG9
      obtain ⟨D, e9, hDn, _⟩ := f2
      rw [e9] at hG9b
      obtain ⟨cD, kD0, hrt⟩ := hG1 D hG9b
      rw [e9]
      clear e9 hG1 hG2 hG9 hG9b f1
      have hDn := Hd.mk hDn
      have kD := Hd.mk kD0
      obtain ⟨Ku, ku, rfl, _⟩ := hrt.row
      have hrm := Hd.mk hrt
      simp only [cT] at hrm kD
      clear kD0 hrt
      replace kx := Hd.mk (kx.out.trans hxV2.out)
      replace kN := Hd.mk (kN.out.ext hxV2.out)
      replace kR := Hd.mk (kR.out.ext hxV2.out)
      clear hxV2
      generalize V2 = W5 at *
      refine (show wpList _ _ _ (⟨some 9, .assign (.tmp 24), _, _, _, none⟩ :: _) _ _ from ?_)
      obtain ⟨m2, rc⟩ := r1
      have hr1 := hr0.out
      rw [hap.out] at hr1
      have gD := kD.out.cell
      by_cases hz : rc = 0
      · subst hz
        rw [if_pos rfl] at hr1
        replace hr1 := Hd.mk hr1
        have hjs := Hd.mk (show m2.size + sizeE (es.drop (j + 1)) ≤ 1048576 by have h1 := hsz.out; have h2 := hs1.out; have h3 := hsq.out m2 rfl; omega)
        have gN := kN.out.cell
        have fN := kN.out.free
        clear hr0 hap hon hs1 hsq hsz hrec
        go_wp2_with fail
        have hu := Hd.mk ((((((Upd.setCell W5 ⟨p, 0, none⟩ (.string m2.name)).trans (Upd.setCell _ ⟨p, 1, none⟩ (.string m2.key))).trans (Upd.setCell _ ⟨p, 2, none⟩ (.int .i64 m2.kind))).trans (Upd.setCell _ ⟨p, 3, none⟩ (.int .u64 m2.num))).trans (Upd.setCell _ ⟨p, 4, none⟩ (.string m2.text))).trans (Upd.setCell _ ⟨p, 5, none⟩ (.slice Ku m2.kids.length ku)))
        have kNn := Hd.mk (show Blk _ p [.string m2.name, .string m2.key, .int .i64 m2.kind, .int .u64 m2.num, .string m2.text, .slice Ku m2.kids.length ku] 54 from ((((((kN.out.setCell 0 (.string m2.name)).setCell 1 (.string m2.key)).setCell 2 (.int .i64 m2.kind)).setCell 3 (.int .u64 m2.num)).setCell 4 (.string m2.text)).setCell 5 (.slice Ku m2.kids.length ku)))
        go_roundg (es.length + 1 - (j + 1))
        case measure => have := hq.out; omega
        case rel => exact ⟨j + 1, by omega, ⟨rfl⟩, by go_num, m2, Ku, ku, hr1, hjs, kNn, ⟨hu.out.blk (by show p + 1 ≠ p; omega) kR.out⟩, ⟨(hrm.out.upd hu.out (fun h => h.1.1 rfl)).mono fun b _ h => h.1⟩, ⟨Below.trans kx.out (hu.out.below (by rw [hp.out]; exact Nat.le_refl _))⟩⟩
      · rw [if_neg (show ¬ ((m2, rc) : T × Int).2 = 0 from hz)] at hr1
        have hz1 : (rc == 0) = false := by simpa using hz
        have hz2 : (rc != 0) = true := by simpa using hz
        obtain rfl : r = (zeroT, rc, j) := hr1.symm
        have gR := kR.out.cell
        have fR := kR.out.free
        clear hr0 hap hon
        go_wp2_with fail
        have hu := Hd.mk ((((((Upd.setCell W5 ⟨p + 1, 0, none⟩ (.string ⟨#[]⟩)).trans (Upd.setCell _ ⟨p + 1, 1, none⟩ (.string ⟨#[]⟩))).trans (Upd.setCell _ ⟨p + 1, 2, none⟩ (.int .i64 0))).trans (Upd.setCell _ ⟨p + 1, 3, none⟩ (.int .u64 0))).trans (Upd.setCell _ ⟨p + 1, 4, none⟩ (.string ⟨#[]⟩))).trans (Upd.setCell _ ⟨p + 1, 5, none⟩ (.slice none 0 0)))
        exact ret_box3 rfl (p + 1) _ 54 _ ((((((kR.out.setCell 0 (.string ⟨#[]⟩)).setCell 1 (.string ⟨#[]⟩)).setCell 2 (.int .i64 0)).setCell 3 (.int .u64 0)).setCell 4 (.string ⟨#[]⟩)).setCell 5 (.slice none 0 0)) rfl rfl Try.underlying54 rfl size54
          ⟨_, rfl, _, rfl, rt_zero _ _, Below.trans kx.out (hu.out.below (by rw [hp.out]; show p ≤ p + 1; omega))⟩
  · have hjl : j = es.length := by omega
    have hr1 := hr0.out
    rw [hjl, List.drop_length, applyT] at hr1
    obtain rfl : r = (m, 0, 0) := hr1.symm
    clear hr0
    have gN := kN.out.cell
    have gR := kR.out.cell
    have fR := kR.out.free
    go_wp2_with fail
    have hu := Hd.mk ((((((Upd.setCell wr ⟨p + 1, 0, none⟩ (.string m.name)).trans (Upd.setCell _ ⟨p + 1, 1, none⟩ (.string m.key))).trans (Upd.setCell _ ⟨p + 1, 2, none⟩ (.int .i64 m.kind))).trans (Upd.setCell _ ⟨p + 1, 3, none⟩ (.int .u64 m.num))).trans (Upd.setCell _ ⟨p + 1, 4, none⟩ (.string m.text))).trans (Upd.setCell _ ⟨p + 1, 5, none⟩ (.slice Km m.kids.length km)))
    exact ret_box3 rfl (p + 1) _ 54 _ ((((((kR.out.setCell 0 (.string m.name)).setCell 1 (.string m.key)).setCell 2 (.int .i64 m.kind)).setCell 3 (.int .u64 m.num)).setCell 4 (.string m.text)).setCell 5 (.slice Km m.kids.length km)) rfl rfl Try.underlying54 rfl size54
      ⟨_, rfl, _, rfl, (kM.out.upd hu.out (fun h => h.2 rfl)).mono (fun _ _ _ => trivial), Below.trans kx.out (hu.out.below (by rw [hp.out]; show p ≤ p + 1; omega))⟩
end Go.Proofs.Ytgkgedjmnbjalaa
set_option linter.unusedSimpArgs false
namespace Go.Proofs.Ytgkgedjmnbjalaa
open Go.RowKit Go.Sort
def upN : T := .mk ⟨#[117, 112]⟩ ⟨#[]⟩ 3 1 ⟨#[]⟩ []
def upE : E := ⟨1, [(⟨#[117, 112]⟩, ⟨#[]⟩)], upN, zeroT⟩
def upD : E := ⟨2, [(⟨#[117, 112]⟩, ⟨#[]⟩)], zeroT, upN⟩
theorem up_one : oneT zeroT upE = (zeroT.wk [upN], 0) := by
  simp [oneT, upE, upN, stepT, T.name, T.key, getT, setR, kid, zeroT, T.kids, T.kind, setT, putT, setL, insL, T.wk, T.num, T.text]
theorem up_two : oneT (zeroT.wk [upN]) upE = (zeroT, 24) := by
  simp [oneT, upE, upN, stepT, T.name, T.key, getT, setR, kid, zeroT, T.kids, T.kind, setT, putT, setL, insL, T.wk, T.num, T.text]
theorem up_cut : oneT (zeroT.wk [upN]) upD = (zeroT, 0) := by
  simp [oneT, upD, upN, stepT, T.name, T.key, getT, cutR, kid, zeroT, T.kids, T.kind, cutT, cutL, T.wk, T.num, T.text, sameT, sameL]
theorem up_app1 : applyT zeroT [upE] 0 = (zeroT.wk [upN], 0, 0) := by
  rw [applyT, up_one]; rfl
theorem up_app2 : applyT zeroT [upE, upE] 0 = (zeroT, 24, 1) := by
  rw [applyT, up_one]
  show applyT (zeroT.wk [upN]) [upE] 1 = _
  rw [applyT, up_two]; rfl
theorem up_right : rightT (zeroT.wk [upN]) = true ∧ rightT upN = true ∧ rightT zeroT = true := by
  refine ⟨?_, ?_, ?_⟩ <;> simp [rightT, rightL, upN, zeroT, T.wk, T.name, T.key, T.kind, T.num, T.text, T.kids]
end Go.Proofs.Ytgkgedjmnbjalaa
set_option linter.unusedSimpArgs false
namespace Go.Proofs.Ytgkgedjmnbjalaa
open Go.RowKit Go.Sort
theorem zero_rt (w : World) : RT (fun _ => True) w zeroT [.string ⟨#[]⟩, .string ⟨#[]⟩, .int .i64 0, .int .u64 0, .string ⟨#[]⟩, .slice none 0 0] :=
  RT.of_row (t := zeroT) (K := none) (kc := 0) (RRow.nil _ _ _ _ (fun _ => rfl))
end Go.Proofs.Ytgkgedjmnbjalaa
set_option linter.unusedSimpArgs false
namespace Go.Proofs.Ytgkgedjmnbjalaa
open Go.RowKit Go.Sort
theorem up_way {w : World} {g : Nat} (h : Blk w g [.string ⟨#[117, 112]⟩, .string ⟨#[]⟩] 65) : WRow (fun _ => True) w (some ⟨g, 0, none⟩) [(⟨#[117, 112]⟩, ⟨#[]⟩)] 1 :=
  ⟨Nat.le_refl _, by simp, fun h => (by cases h), fun _ => ⟨g, 0, rfl, trivial, fun j v hv => by rw [Nat.zero_add, h.cell]; exact hv⟩⟩
theorem upE_re {w : World} {g : Nat} (h : Blk w g [.string ⟨#[117, 112]⟩, .string ⟨#[]⟩] 65) : RE (fun _ => True) w upE [.int .i64 1, .slice (some ⟨g, 0, none⟩) 1 1, .string ⟨#[117, 112]⟩, .string ⟨#[]⟩, .int .i64 3, .int .u64 1, .string ⟨#[]⟩, .slice none 0 0, .string ⟨#[]⟩, .string ⟨#[]⟩, .int .i64 0, .int .u64 0, .string ⟨#[]⟩, .slice none 0 0] :=
  ⟨some ⟨g, 0, none⟩, 1, none, 0, none, 0, rfl, up_way h, RRow.nil _ _ _ _ (fun _ => rfl), RRow.nil _ _ _ _ (fun _ => rfl)⟩
theorem upD_re {w : World} {g : Nat} (h : Blk w g [.string ⟨#[117, 112]⟩, .string ⟨#[]⟩] 65) : RE (fun _ => True) w upD [.int .i64 2, .slice (some ⟨g, 0, none⟩) 1 1, .string ⟨#[]⟩, .string ⟨#[]⟩, .int .i64 0, .int .u64 0, .string ⟨#[]⟩, .slice none 0 0, .string ⟨#[117, 112]⟩, .string ⟨#[]⟩, .int .i64 3, .int .u64 1, .string ⟨#[]⟩, .slice none 0 0] :=
  ⟨some ⟨g, 0, none⟩, 1, none, 0, none, 0, rfl, up_way h, RRow.nil _ _ _ _ (fun _ => rfl), RRow.nil _ _ _ _ (fun _ => rfl)⟩
theorem up_row1 {w : World} {g k : Nat} (h : Blk w g [.string ⟨#[117, 112]⟩, .string ⟨#[]⟩] 65) (hk : Blk w k [.int .i64 1, .slice (some ⟨g, 0, none⟩) 1 1, .string ⟨#[117, 112]⟩, .string ⟨#[]⟩, .int .i64 3, .int .u64 1, .string ⟨#[]⟩, .slice none 0 0, .string ⟨#[]⟩, .string ⟨#[]⟩, .int .i64 0, .int .u64 0, .string ⟨#[]⟩, .slice none 0 0] 68) : ERow (fun _ => True) w (some ⟨k, 0, none⟩) [upE] 1 :=
  ⟨Nat.le_refl _, by simp, fun h => (by cases h), fun i e hi => by
    cases i with
    | zero => simp at hi; subst hi; exact ⟨k, 0, _, rfl, trivial, upE_re h, fun j v hv => by rw [show 0 + 0 * 14 + j = j by omega, hk.cell]; exact hv⟩
    | succ i => simp at hi⟩
theorem up_row2 {w : World} {g k : Nat} (h : Blk w g [.string ⟨#[117, 112]⟩, .string ⟨#[]⟩] 65) (hk : Blk w k ([.int .i64 1, .slice (some ⟨g, 0, none⟩) 1 1, .string ⟨#[117, 112]⟩, .string ⟨#[]⟩, .int .i64 3, .int .u64 1, .string ⟨#[]⟩, .slice none 0 0, .string ⟨#[]⟩, .string ⟨#[]⟩, .int .i64 0, .int .u64 0, .string ⟨#[]⟩, .slice none 0 0] ++ [.int .i64 1, .slice (some ⟨g, 0, none⟩) 1 1, .string ⟨#[117, 112]⟩, .string ⟨#[]⟩, .int .i64 3, .int .u64 1, .string ⟨#[]⟩, .slice none 0 0, .string ⟨#[]⟩, .string ⟨#[]⟩, .int .i64 0, .int .u64 0, .string ⟨#[]⟩, .slice none 0 0]) 68) : ERow (fun _ => True) w (some ⟨k, 0, none⟩) [upE, upE] 2 :=
  ⟨Nat.le_refl _, by simp, fun h => (by cases h), fun i e hi => by
    cases i with
    | zero => simp at hi; subst hi; exact ⟨k, 0, _, rfl, trivial, upE_re h, fun j v hv => by rw [show 0 + 0 * 14 + j = j by omega, hk.cell, List.getElem?_append_left (List.getElem?_eq_some_iff.1 hv).1]; exact hv⟩
    | succ i =>
      cases i with
      | zero => simp at hi; subst hi; exact ⟨k, 0, _, rfl, trivial, upE_re h, fun j v hv => by rw [show 0 + (0 + 1) * 14 + j = 14 + j by omega, hk.cell]; exact (List.getElem?_append_right (show ([.int .i64 1, .slice (some ⟨g, 0, none⟩) 1 1, .string ⟨#[117, 112]⟩, .string ⟨#[]⟩, .int .i64 3, .int .u64 1, .string ⟨#[]⟩, .slice none 0 0, .string ⟨#[]⟩, .string ⟨#[]⟩, .int .i64 0, .int .u64 0, .string ⟨#[]⟩, .slice none 0 0] : List Value).length ≤ 14 + j from Nat.le_add_right 14 j)).trans (by rw [show 14 + j - ([.int .i64 1, .slice (some ⟨g, 0, none⟩) 1 1, .string ⟨#[117, 112]⟩, .string ⟨#[]⟩, .int .i64 3, .int .u64 1, .string ⟨#[]⟩, .slice none 0 0, .string ⟨#[]⟩, .string ⟨#[]⟩, .int .i64 0, .int .u64 0, .string ⟨#[]⟩, .slice none 0 0] : List Value).length = j from Nat.add_sub_cancel_left 14 j]; exact hv)⟩
      | succ i => simp at hi⟩
set_option maxRecDepth 100000 in
set_option maxHeartbeats 4000000 in
theorem awake17 (w : World) : Calls Try.prog 50 #[] w fun e w' => e = .returned (.bool true) ∧ Ext w w' := by
  go_enter Try.func50, Try.ntmps50
  go_wp2_with fail
  have kx := Hd.mk ((((Ext.alloc w (.cells #[.string ⟨#[117, 112]⟩, .string ⟨#[]⟩, .int .i64 3, .int .u64 1, .string ⟨#[]⟩, .slice none 0 0] 54)).trans (Ext.alloc _ (.cells #[.string ⟨#[117, 112]⟩, .string ⟨#[]⟩] 65))).trans (Ext.alloc _ (.cells #[.int .i64 1, .slice (some ⟨w.heap.size + 1, 0, none⟩) 1 1, .string ⟨#[117, 112]⟩, .string ⟨#[]⟩, .int .i64 3, .int .u64 1, .string ⟨#[]⟩, .slice none 0 0, .string ⟨#[]⟩, .string ⟨#[]⟩, .int .i64 0, .int .u64 0, .string ⟨#[]⟩, .slice none 0 0] 68))).trans (Ext.alloc _ (.cells #[.int .i64 1, .slice (some ⟨w.heap.size + 1, 0, none⟩) 1 1, .string ⟨#[117, 112]⟩, .string ⟨#[]⟩, .int .i64 3, .int .u64 1, .string ⟨#[]⟩, .slice none 0 0, .string ⟨#[]⟩, .string ⟨#[]⟩, .int .i64 0, .int .u64 0, .string ⟨#[]⟩, .slice none 0 0] 68)))
  have kN := Hd.mk ((((Blk.new w #[.string ⟨#[117, 112]⟩, .string ⟨#[]⟩, .int .i64 3, .int .u64 1, .string ⟨#[]⟩, .slice none 0 0] 54).alloc (.cells #[.string ⟨#[117, 112]⟩, .string ⟨#[]⟩] 65)).alloc (.cells #[.int .i64 1, .slice (some ⟨w.heap.size + 1, 0, none⟩) 1 1, .string ⟨#[117, 112]⟩, .string ⟨#[]⟩, .int .i64 3, .int .u64 1, .string ⟨#[]⟩, .slice none 0 0, .string ⟨#[]⟩, .string ⟨#[]⟩, .int .i64 0, .int .u64 0, .string ⟨#[]⟩, .slice none 0 0] 68)).alloc (.cells #[.int .i64 1, .slice (some ⟨w.heap.size + 1, 0, none⟩) 1 1, .string ⟨#[117, 112]⟩, .string ⟨#[]⟩, .int .i64 3, .int .u64 1, .string ⟨#[]⟩, .slice none 0 0, .string ⟨#[]⟩, .string ⟨#[]⟩, .int .i64 0, .int .u64 0, .string ⟨#[]⟩, .slice none 0 0] 68))
  have kW := Hd.mk (((Blk.new2 w (.cells #[.string ⟨#[117, 112]⟩, .string ⟨#[]⟩, .int .i64 3, .int .u64 1, .string ⟨#[]⟩, .slice none 0 0] 54) #[.string ⟨#[117, 112]⟩, .string ⟨#[]⟩] 65).alloc (.cells #[.int .i64 1, .slice (some ⟨w.heap.size + 1, 0, none⟩) 1 1, .string ⟨#[117, 112]⟩, .string ⟨#[]⟩, .int .i64 3, .int .u64 1, .string ⟨#[]⟩, .slice none 0 0, .string ⟨#[]⟩, .string ⟨#[]⟩, .int .i64 0, .int .u64 0, .string ⟨#[]⟩, .slice none 0 0] 68)).alloc (.cells #[.int .i64 1, .slice (some ⟨w.heap.size + 1, 0, none⟩) 1 1, .string ⟨#[117, 112]⟩, .string ⟨#[]⟩, .int .i64 3, .int .u64 1, .string ⟨#[]⟩, .slice none 0 0, .string ⟨#[]⟩, .string ⟨#[]⟩, .int .i64 0, .int .u64 0, .string ⟨#[]⟩, .slice none 0 0] 68))
  have kE := Hd.mk ((Blk.new3 w (.cells #[.string ⟨#[117, 112]⟩, .string ⟨#[]⟩, .int .i64 3, .int .u64 1, .string ⟨#[]⟩, .slice none 0 0] 54) (.cells #[.string ⟨#[117, 112]⟩, .string ⟨#[]⟩] 65) #[.int .i64 1, .slice (some ⟨w.heap.size + 1, 0, none⟩) 1 1, .string ⟨#[117, 112]⟩, .string ⟨#[]⟩, .int .i64 3, .int .u64 1, .string ⟨#[]⟩, .slice none 0 0, .string ⟨#[]⟩, .string ⟨#[]⟩, .int .i64 0, .int .u64 0, .string ⟨#[]⟩, .slice none 0 0] 68).alloc (.cells #[.int .i64 1, .slice (some ⟨w.heap.size + 1, 0, none⟩) 1 1, .string ⟨#[117, 112]⟩, .string ⟨#[]⟩, .int .i64 3, .int .u64 1, .string ⟨#[]⟩, .slice none 0 0, .string ⟨#[]⟩, .string ⟨#[]⟩, .int .i64 0, .int .u64 0, .string ⟨#[]⟩, .slice none 0 0] 68))
  have k4 : Blk ((((w.alloc (.cells #[.string ⟨#[117, 112]⟩, .string ⟨#[]⟩, .int .i64 3, .int .u64 1, .string ⟨#[]⟩, .slice none 0 0] 54)).alloc (.cells #[.string ⟨#[117, 112]⟩, .string ⟨#[]⟩] 65)).alloc (.cells #[.int .i64 1, .slice (some ⟨w.heap.size + 1, 0, none⟩) 1 1, .string ⟨#[117, 112]⟩, .string ⟨#[]⟩, .int .i64 3, .int .u64 1, .string ⟨#[]⟩, .slice none 0 0, .string ⟨#[]⟩, .string ⟨#[]⟩, .int .i64 0, .int .u64 0, .string ⟨#[]⟩, .slice none 0 0] 68)).alloc (.cells #[.int .i64 1, .slice (some ⟨w.heap.size + 1, 0, none⟩) 1 1, .string ⟨#[117, 112]⟩, .string ⟨#[]⟩, .int .i64 3, .int .u64 1, .string ⟨#[]⟩, .slice none 0 0, .string ⟨#[]⟩, .string ⟨#[]⟩, .int .i64 0, .int .u64 0, .string ⟨#[]⟩, .slice none 0 0] 68)) (w.heap.size + 1 + 1 + 1) [.int .i64 1, .slice (some ⟨w.heap.size + 1, 0, none⟩) 1 1, .string ⟨#[117, 112]⟩, .string ⟨#[]⟩, .int .i64 3, .int .u64 1, .string ⟨#[]⟩, .slice none 0 0, .string ⟨#[]⟩, .string ⟨#[]⟩, .int .i64 0, .int .u64 0, .string ⟨#[]⟩, .slice none 0 0] 68 := by
    have := Blk.new (((w.alloc (.cells #[.string ⟨#[117, 112]⟩, .string ⟨#[]⟩, .int .i64 3, .int .u64 1, .string ⟨#[]⟩, .slice none 0 0] 54)).alloc (.cells #[.string ⟨#[117, 112]⟩, .string ⟨#[]⟩] 65)).alloc (.cells #[.int .i64 1, .slice (some ⟨w.heap.size + 1, 0, none⟩) 1 1, .string ⟨#[117, 112]⟩, .string ⟨#[]⟩, .int .i64 3, .int .u64 1, .string ⟨#[]⟩, .slice none 0 0, .string ⟨#[]⟩, .string ⟨#[]⟩, .int .i64 0, .int .u64 0, .string ⟨#[]⟩, .slice none 0 0] 68)) #[.int .i64 1, .slice (some ⟨w.heap.size + 1, 0, none⟩) 1 1, .string ⟨#[117, 112]⟩, .string ⟨#[]⟩, .int .i64 3, .int .u64 1, .string ⟨#[]⟩, .slice none 0 0, .string ⟨#[]⟩, .string ⟨#[]⟩, .int .i64 0, .int .u64 0, .string ⟨#[]⟩, .slice none 0 0] 68
    simpa using this
  replace k4 := Hd.mk k4
  generalize (((w.alloc _).alloc _).alloc _).alloc _ = W at *
  generalize w.heap.size = p at *
  have hc := patch_apply zeroT [upE] (fun _ => True) (fun _ => True) W _ (some ⟨p + 1 + 1 + 1, 0, none⟩) 1 (zero_rt W) (up_row1 kW.out k4.out) up_right.2.2 (fun e he _ => by simp at he; subst he; exact up_right.2.1) (by decide)
  rw [up_app1] at hc
  refine Calls.mono hc ?_
  rintro e w1 ⟨_, rfl, c1, rfl, hr1, hx⟩
  obtain ⟨K1, k1, rfl, _⟩ := hr1.row
  have kr1 := Hd.mk hr1
  simp only [cT] at kr1 ⊢
  replace kx := Hd.mk (kx.out.trans hx)
  replace kN := Hd.mk (kN.out.ext hx)
  replace kW := Hd.mk (kW.out.ext hx)
  replace kE := Hd.mk (kE.out.ext hx)
  clear hx hc k4 hr1
  have gE := (kE.out.alloc (.cells #[.string (zeroT.wk [upN]).name, .string (zeroT.wk [upN]).key, .int .i64 (zeroT.wk [upN]).kind, .int .u64 (zeroT.wk [upN]).num, .string (zeroT.wk [upN]).text, .slice K1 (zeroT.wk [upN]).kids.length k1] 54)).cell
  have gE1 := ((kE.out.alloc (.cells #[.string (zeroT.wk [upN]).name, .string (zeroT.wk [upN]).key, .int .i64 (zeroT.wk [upN]).kind, .int .u64 (zeroT.wk [upN]).num, .string (zeroT.wk [upN]).text, .slice K1 (zeroT.wk [upN]).kids.length k1] 54)).alloc (.cells #[.int .i64 1, .slice (some ⟨p + 1, 0, none⟩) 1 1, .string ⟨#[117, 112]⟩, .string ⟨#[]⟩, .int .i64 3, .int .u64 1, .string ⟨#[]⟩, .slice none 0 0, .string ⟨#[]⟩, .string ⟨#[]⟩, .int .i64 0, .int .u64 0, .string ⟨#[]⟩, .slice none 0 0, .int .i64 1, .slice (some ⟨p + 1, 0, none⟩) 1 1, .string ⟨#[117, 112]⟩, .string ⟨#[]⟩, .int .i64 3, .int .u64 1, .string ⟨#[]⟩, .slice none 0 0, .string ⟨#[]⟩, .string ⟨#[]⟩, .int .i64 0, .int .u64 0, .string ⟨#[]⟩, .slice none 0 0] 68)).cell
  go_wp2_with fail
  have hxA := (Ext.alloc w1 (.cells #[.string (zeroT.wk [upN]).name, .string (zeroT.wk [upN]).key, .int .i64 (zeroT.wk [upN]).kind, .int .u64 (zeroT.wk [upN]).num, .string (zeroT.wk [upN]).text, .slice K1 (zeroT.wk [upN]).kids.length k1] 54)).trans (Ext.alloc _ (.cells #[.int .i64 1, .slice (some ⟨p + 1, 0, none⟩) 1 1, .string ⟨#[117, 112]⟩, .string ⟨#[]⟩, .int .i64 3, .int .u64 1, .string ⟨#[]⟩, .slice none 0 0, .string ⟨#[]⟩, .string ⟨#[]⟩, .int .i64 0, .int .u64 0, .string ⟨#[]⟩, .slice none 0 0, .int .i64 1, .slice (some ⟨p + 1, 0, none⟩) 1 1, .string ⟨#[117, 112]⟩, .string ⟨#[]⟩, .int .i64 3, .int .u64 1, .string ⟨#[]⟩, .slice none 0 0, .string ⟨#[]⟩, .string ⟨#[]⟩, .int .i64 0, .int .u64 0, .string ⟨#[]⟩, .slice none 0 0] 68))
  have kM := Hd.mk ((Blk.new w1 #[.string (zeroT.wk [upN]).name, .string (zeroT.wk [upN]).key, .int .i64 (zeroT.wk [upN]).kind, .int .u64 (zeroT.wk [upN]).num, .string (zeroT.wk [upN]).text, .slice K1 (zeroT.wk [upN]).kids.length k1] 54).alloc (.cells #[.int .i64 1, .slice (some ⟨p + 1, 0, none⟩) 1 1, .string ⟨#[117, 112]⟩, .string ⟨#[]⟩, .int .i64 3, .int .u64 1, .string ⟨#[]⟩, .slice none 0 0, .string ⟨#[]⟩, .string ⟨#[]⟩, .int .i64 0, .int .u64 0, .string ⟨#[]⟩, .slice none 0 0, .int .i64 1, .slice (some ⟨p + 1, 0, none⟩) 1 1, .string ⟨#[117, 112]⟩, .string ⟨#[]⟩, .int .i64 3, .int .u64 1, .string ⟨#[]⟩, .slice none 0 0, .string ⟨#[]⟩, .string ⟨#[]⟩, .int .i64 0, .int .u64 0, .string ⟨#[]⟩, .slice none 0 0] 68))
  have k4 := Hd.mk (Blk.new2 w1 (.cells #[.string (zeroT.wk [upN]).name, .string (zeroT.wk [upN]).key, .int .i64 (zeroT.wk [upN]).kind, .int .u64 (zeroT.wk [upN]).num, .string (zeroT.wk [upN]).text, .slice K1 (zeroT.wk [upN]).kids.length k1] 54) #[.int .i64 1, .slice (some ⟨p + 1, 0, none⟩) 1 1, .string ⟨#[117, 112]⟩, .string ⟨#[]⟩, .int .i64 3, .int .u64 1, .string ⟨#[]⟩, .slice none 0 0, .string ⟨#[]⟩, .string ⟨#[]⟩, .int .i64 0, .int .u64 0, .string ⟨#[]⟩, .slice none 0 0, .int .i64 1, .slice (some ⟨p + 1, 0, none⟩) 1 1, .string ⟨#[117, 112]⟩, .string ⟨#[]⟩, .int .i64 3, .int .u64 1, .string ⟨#[]⟩, .slice none 0 0, .string ⟨#[]⟩, .string ⟨#[]⟩, .int .i64 0, .int .u64 0, .string ⟨#[]⟩, .slice none 0 0] 68)
  replace kx := Hd.mk (kx.out.trans hxA)
  replace kN := Hd.mk (kN.out.ext hxA)
  replace kW := Hd.mk (kW.out.ext hxA)
  replace kE := Hd.mk (kE.out.ext hxA)
  replace kr1 := Hd.mk (kr1.out.ext hxA)
  clear hxA gE gE1
  generalize w1.heap.size = g at *
  generalize (w1.alloc _).alloc _ = W2 at *
  have hc := patch_apply zeroT [upE, upE] (fun _ => True) (fun _ => True) W2 _ (some ⟨g + 1, 0, none⟩) 2 (zero_rt W2) (up_row2 kW.out k4.out) up_right.2.2 (fun e he _ => by simp at he; subst he; exact up_right.2.1) (by decide)
  rw [up_app2] at hc
  refine Calls.mono hc ?_
  rintro e w2 ⟨_, rfl, c2, rfl, hr2, hx⟩
  obtain ⟨K2, k2, rfl, _⟩ := hr2.row
  simp only [cT]
  replace kx := Hd.mk (kx.out.trans hx)
  replace kN := Hd.mk (kN.out.ext hx)
  replace kW := Hd.mk (kW.out.ext hx)
  replace kE := Hd.mk (kE.out.ext hx)
  replace kM := Hd.mk (kM.out.ext hx)
  replace kr1 := Hd.mk (kr1.out.ext hx)
  clear hx hc k4 hr2
  have gE := (kE.out.alloc (.cells #[.string zeroT.name, .string zeroT.key, .int .i64 zeroT.kind, .int .u64 zeroT.num, .string zeroT.text, .slice K2 zeroT.kids.length k2] 54)).cell
  have gM := (kM.out.alloc (.cells #[.string zeroT.name, .string zeroT.key, .int .i64 zeroT.kind, .int .u64 zeroT.num, .string zeroT.text, .slice K2 zeroT.kids.length k2] 54)).cell
  have gN := (kN.out.alloc (.cells #[.string zeroT.name, .string zeroT.key, .int .i64 zeroT.kind, .int .u64 zeroT.num, .string zeroT.text, .slice K2 zeroT.kids.length k2] 54)).cell
  go_wp2_with fail
  have hxA := Ext.alloc w2 (.cells #[.string zeroT.name, .string zeroT.key, .int .i64 zeroT.kind, .int .u64 zeroT.num, .string zeroT.text, .slice K2 zeroT.kids.length k2] 54)
  replace kx := Hd.mk (kx.out.trans hxA)
  replace kW := Hd.mk (kW.out.ext hxA)
  replace kM := Hd.mk (kM.out.ext hxA)
  replace kr1 := Hd.mk (kr1.out.ext hxA)
  clear hxA gE gM gN kE kN
  generalize w2.heap.size = g2 at *
  generalize w2.alloc _ = W3 at *
  have hc := patchOne (zeroT.wk [upN]) upD (fun _ => True) W3 _ _ (kr1.out.mono fun _ _ _ => trivial) (upD_re kW.out) up_right.1 (by decide)
  rw [up_cut] at hc
  refine Calls.mono hc ?_
  rintro e w3 ⟨_, rfl, c3, rfl, hr3, hx⟩
  obtain ⟨K3, k3, _, _, rfl, _⟩ := hr3.row
  simp only [cT]
  replace kx := Hd.mk (kx.out.trans hx)
  replace kM := Hd.mk (kM.out.ext hx)
  clear hx hc hr3 kW kr1
  have q1 : (zeroT.wk [upN]).kids.length = 1 := rfl
  have q0 : zeroT.kids.length = 0 := rfl
  rw [q1] at kM
  rw [q0]
  have gM := (kM.out.alloc (.cells #[.string zeroT.name, .string zeroT.key, .int .i64 zeroT.kind, .int .u64 zeroT.num, .string zeroT.text, .slice K3 0 k3] 54)).cell
  have gZ := (Blk.new w3 #[.string zeroT.name, .string zeroT.key, .int .i64 zeroT.kind, .int .u64 zeroT.num, .string zeroT.text, .slice K3 0 k3] 54).cell
  go_wp2_with fail
  go_ret
  exact ⟨rfl, kx.out.trans (Ext.alloc _ _)⟩
end Go.Proofs.Ytgkgedjmnbjalaa

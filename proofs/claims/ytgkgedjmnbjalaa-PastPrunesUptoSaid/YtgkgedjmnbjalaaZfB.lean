/- Texts that the law needs, joined.
   Conditions: none. -/
import Derived.Test.YtgkgedjmnbjalaaZfA
import Derived.Test.YtgkgedjmnbjalaaProg
import Derived.WalkKit
import Derived.KernelRfl
import Derived.Deep.LoopGhost
import Derived.Maps.AppendAt
import Derived.Lib.QuietBelow
import Derived.BigQuiet
import Derived.ChangeOld
import Derived.DataReads
import Derived.Laws.Cover1
import Derived.Sort.Walk0
set_option linter.unusedSimpArgs false
set_option linter.unusedVariables false
namespace Go.Proofs.Ytgkgedjmnbjalaa
open Go.RowKit
namespace FlowJ
open Flow (certB closedB fitB depB oldB depsB rangeB tailB flowB fillL marked left ahead_listed getD_set put_getD put_getD_ge put_size put_defers' mem_ready' marked_size marked_getD unlisted left_set wpAny_fuel_ready upto wpAny_tail marked_range fillL_length fillL_get countP_set countP_other upto_getD upto_size upto_set)
variable {P : Program} {ops : Array Oper} {Q : Exit → Act → World → Prop}
structure PairOK (ops : Array Oper) (C : Array Nat) (L : List Nat) (s x tx : Nat) (Y : List (Nat × Tmp)) (J : Value → Value → World → Prop) : Prop where
  xL : x ∈ L
  xd : (ops[x]?).bind (·.dst) = some tx
  xs : (C.getD s 0).testBit x = true
  y : ∀ p ∈ Y, p.1 ≠ x ∧ p.2 ≠ tx ∧ p.1 ∈ L ∧ (ops[p.1]?).bind (·.dst) = some p.2 ∧ (C.getD s 0).testBit p.1 = true
  mono : ∀ u u' w w', Ext w w' → J u u' w → J u u' w'
def Xt (C : Array Nat) (F : Tmp → SP) (G : Act → World → Prop) (J : Value → Value → World → Prop) (s x tx : Nat) (Y : List (Nat × Tmp)) (i : Nat) (a : Act) (w : World) (v : Value) (w' : World) : Prop :=
  (i = s → G a w') ∧ (i = x → ∀ p ∈ Y, ∀ u, (F p.2).p u w → J v u w') ∧ ∀ p ∈ Y, i = p.1 → ∀ u, (F tx).p u w → (∀ q ∈ Y, (C.getD i 0).testBit q.1 = true → J u (a.tmps.getD q.2 undef) w) → J u v w'
structure Known (tx : Nat) (Y : List (Nat × Tmp)) (J : Value → Value → World → Prop) (R : World → World → Prop) (s : Nat) (ops : Array Oper) (C : Array Nat) (L : List Nat) (F F2 : Tmp → SP) (a0 : Act) (w0 : World) (i : Nat) (a : Act) (w : World) : Prop where
  ext : R w0 w
  early : (i = s ∨ (C.getD s 0).testBit i = true) → Ext w0 w
  size : a.tmps.size = a0.tmps.size
  dep : ∀ t, depB ops C L i t = true → (F2 t).p (a.tmps.getD t undef) w
  depE : (i = s ∨ (C.getD s 0).testBit i = true) → ∀ t, depB ops C L i t = true → (F t).p (a.tmps.getD t undef) w
  old : ∀ t, oldB ops C L i t = true → a.tmps.getD t undef = a0.tmps.getD t undef
  rel : i = s → ∀ p ∈ Y, J (a.tmps.getD tx undef) (a.tmps.getD p.2 undef) w
theorem Known.v {tx : Nat} {Y : List (Nat × Tmp)} {J : Value → Value → World → Prop} {R : World → World → Prop} {s : Nat} {C : Array Nat} {L : List Nat} {F F2 : Tmp → SP} {a0 : Act} {w0 : World} {i : Nat} {a : Act} {w : World} (h : Known tx Y J R s ops C L F F2 a0 w0 i a w) (t : Tmp) (hd : depB ops C L i t = true) : (F2 t).p (a.tmps[t]?.getD undef) w := by
  have := h.dep t hd
  rwa [Array.getD_eq_getD_getElem?] at this
theorem Known.ve {tx : Nat} {Y : List (Nat × Tmp)} {J : Value → Value → World → Prop} {R : World → World → Prop} {s : Nat} {C : Array Nat} {L : List Nat} {F F2 : Tmp → SP} {a0 : Act} {w0 : World} {i : Nat} {a : Act} {w : World} (h : Known tx Y J R s ops C L F F2 a0 w0 i a w) (t : Tmp) (he : (i == s || (C.getD s 0).testBit i) = true) (hd : depB ops C L i t = true) : (F t).p (a.tmps[t]?.getD undef) w := by
  have := h.depE (by simpa using he) t hd
  rwa [Array.getD_eq_getD_getElem?] at this
theorem Known.o {tx : Nat} {Y : List (Nat × Tmp)} {J : Value → Value → World → Prop} {R : World → World → Prop} {s : Nat} {C : Array Nat} {L : List Nat} {F F2 : Tmp → SP} {a0 : Act} {w0 : World} {i : Nat} {a : Act} {w : World} (h : Known tx Y J R s ops C L F F2 a0 w0 i a w) (t : Tmp) (hd : oldB ops C L i t = true) : a.tmps[t]?.getD undef = a0.tmps.getD t undef := by
  have := h.old t hd
  rwa [Array.getD_eq_getD_getElem?] at this
def Does (Rl : World → World → Prop) (G : Act → World → Value → World → Prop) (P : Program) (ops : Array Oper) (Q : Exit → Act → World → Prop) (F : Tmp → SP) (o : Oper) (a : Act) (w : World) : Prop :=
  if Region.wanted o (yielded ops a.tmps) then o.wp P a w (fun a' w' => ∃ v, a' = a.put o.dst v ∧ Rl w w' ∧ G a w v w' ∧ ∀ d, o.dst = some d → (F d).p v w') Q
  else G a w undef w ∧ ∀ d, o.dst = some d → (F d).p undef w
structure Ends (R : World → World → Prop) (G : Act → World → Prop) (s : Nat) (C : Array Nat) (ops : Array Oper) (L : List Nat) (F F2 : Tmp → SP) (a0 : Act) (w0 : World) (a : Act) (w : World) : Prop where
  ext : R w0 w
  size : a.tmps.size = a0.tmps.size
  defers : a.defers = a0.defers
  post : ∃ a1, G a1 w ∧ ∀ t, depB ops C L s t = true → a1.tmps.getD t undef = a.tmps.getD t undef
  new : ∀ j ∈ L, ∀ t, (ops[j]?).bind (·.dst) = some t → (F2 t).p (a.tmps.getD t undef) w
  old : ∀ t, (L.all fun j => ((ops[j]?).bind (·.dst)) != some t) = true → a.tmps.getD t undef = a0.tmps.getD t undef
structure Inv (x tx : Nat) (Y : List (Nat × Tmp)) (J : Value → Value → World → Prop) (R : World → World → Prop) (G : Act → World → Prop) (s : Nat) (C : Array Nat) (ops : Array Oper) (L : List Nat) (F F2 : Tmp → SP) (a0 : Act) (w0 : World) (l0 l : Array Bool) (a : Act) (w : World) : Prop where
  ext : R w0 w
  early : l.getD s false = false → Ext w0 w
  post : l.getD s false = true → ∃ a1, G a1 w ∧ ∀ t, depB ops C L s t = true → a1.tmps.getD t undef = a.tmps.getD t undef
  size : a.tmps.size = a0.tmps.size
  defers : a.defers = a0.defers
  lsize : l.size = ops.size
  closed : ∀ j o, ops[j]? = some o → l.getD j false = true → ∀ e ∈ o.after, Region.binds .any e = true → l.getD e.on false = true
  out : ∀ j, j ∉ L → l.getD j false = l0.getD j false
  new : ∀ j ∈ L, l.getD j false = true → ∀ t, (ops[j]?).bind (·.dst) = some t → (F2 t).p (a.tmps.getD t undef) w
  rel : l.getD s false = false → l.getD x false = true → ∀ p ∈ Y, l.getD p.1 false = true → J (a.tmps.getD tx undef) (a.tmps.getD p.2 undef) w
  newE : l.getD s false = false → ∀ j ∈ L, l.getD j false = true → ∀ t, (ops[j]?).bind (·.dst) = some t → (F t).p (a.tmps.getD t undef) w
  old : ∀ t, (∀ j ∈ L, l.getD j false = true → (ops[j]?).bind (·.dst) ≠ some t) → a.tmps.getD t undef = a0.tmps.getD t undef
theorem Inv.step {x tx : Nat} {Y : List (Nat × Tmp)} {J : Value → Value → World → Prop} {R : World → World → Prop} {G : Act → World → Prop} (hGE : ∀ a w w', Ext w w' → G a w → G a w') {s : Nat} {L : List Nat} {F F2 : Tmp → SP} {C : Array Nat} (hC : certB ops C = true) (hLlt : ∀ j ∈ L, j < ops.size) (hss : s < ops.size) (hself : (C.getD s 0).testBit s = false) {a0 : Act} {w0 : World} {l0 l : Array Bool} {a : Act} {w : World} (hfit : fitB ops C l0 L = true)
    (h : Inv x tx Y J R G s C ops L F F2 a0 w0 l0 l a w) {i : Nat} {o : Oper} (hi : i ∈ L) (ho : ops[i]? = some o) (hr : ∀ e ∈ o.after, Region.binds .any e = true → l.getD e.on false = true)
    {v : Value} {w' : World} (hx : R w0 w') (hex : i ≠ s → Ext w w') (hP : PairOK ops C L s x tx Y J) (hGs : Xt C F G J s x tx Y i a w v w') (hun : l.getD i false = false) (hw2 : ∀ t u w, (F t).p u w → (F2 t).p u w) (hmn2 : ∀ t, o.dst ≠ some t → ∀ u, (i ≠ s → (F2 t).p u w → (F2 t).p u w') ∧ (i = s → (F t).p u w → (F2 t).p u w')) (hmnE : i ≠ s → ∀ t, o.dst ≠ some t → ∀ u, (F t).p u w → (F t).p u w') (hv : ∀ d, o.dst = some d → (F d).p v w') (hu : ∀ d, o.dst = some d → a.tmps.size ≤ d → v = undef) :
    Inv x tx Y J R G s C ops L F F2 a0 w0 l0 (l.setIfInBounds i true) (a.put o.dst v) w' := by
  have hlt : i < ops.size := (Array.getElem?_eq_some_iff.1 ho).1
  have hli : i < l.size := by rw [h.lsize]; exact hlt
  have hone : ∀ j ∈ L, ∀ d, (ops[j]?).bind (·.dst) = some d → o.dst = some d → j = i := by
    intro j hj d h1 h2
    simp only [fitB, Bool.and_eq_true] at hfit
    have hfit := hfit.2
    rw [List.all_eq_true] at hfit
    have hjlt : j < ops.size := by
      rcases Nat.lt_or_ge j ops.size with hh | hh
      · exact hh
      · simp [Array.getElem?_eq_none hh] at h1
    have h3 := hfit j (List.mem_range.2 hjlt)
    rw [List.all_eq_true] at h3
    have h4 := h3 i (List.mem_range.2 hlt)
    simp only [ho, Option.bind_some, h2, h1, Bool.or_eq_true, beq_iff_eq, Bool.not_eq_true', bne_iff_ne, ne_eq, not_true_eq_false, or_false] at h4
    rcases h4 with (h4 | h4) | h4
    · exact h4.symm
    · simp [hi] at h4
    · simp [hj] at h4
  refine ⟨hx, fun hls => ?_, fun hls => ?_, by rw [put_size]; exact h.size, by rw [put_defers']; exact h.defers, by simp [h.lsize], ?_, ?_, ?_, ?_, ?_, ?_⟩
  · rw [getD_set _ _ _ hli] at hls
    simp only [Bool.or_eq_false_iff, beq_eq_false_iff_ne] at hls
    exact (h.early hls.2).trans (hex (fun e => hls.1 e.symm))
  · have hkeep : ∀ t, depB ops C L s t = true → (a.put o.dst v).tmps.getD t undef = a.tmps.getD t undef := by
      intro t ht
      simp only [depB, List.any_eq_true, Bool.and_eq_true, beq_iff_eq] at ht
      obtain ⟨j, hj, hbit, hdst⟩ := ht
      have hne : o.dst ≠ some t := by
        intro e
        have hji := hone j hj t hdst e
        subst hji
        -- j is ahead of s, and not listed
        rw [getD_set _ _ _ hli] at hls
        by_cases hjs : s = j
        · subst hjs
          rw [hself] at hbit; cases hbit
        · simp only [beq_iff_eq, hjs, Bool.or_eq_true, false_or] at hls
          have := ahead_listed hC h.closed j hlt s hss (fun o' ho' e' he' hbb => h.closed s o' ho' hls e' he' hbb) hbit
          rw [hun] at this; cases this
      cases hdd : o.dst with
      | none => rfl
      | some d =>
        have hnd : t ≠ d := fun e => hne (by rw [hdd, e])
        rcases Nat.lt_or_ge d a.tmps.size with hs | hs
        · rw [put_getD _ _ _ _ hs, if_neg hnd]
        · rw [put_getD_ge _ _ _ _ hs]
    rw [getD_set _ _ _ hli] at hls
    by_cases his : i = s
    · exact ⟨a, hGs.1 his, fun t ht => (hkeep t ht).symm⟩
    · have hsi : (s == i) = false := by rw [beq_eq_false_iff_ne]; exact fun e => his e.symm
      rw [hsi, Bool.false_or] at hls
      obtain ⟨a1, g1, g2⟩ := h.post hls
      exact ⟨a1, hGE _ _ _ (hex his) g1, fun t ht => (g2 t ht).trans (hkeep t ht).symm⟩
  · intro j oj hoj hlj e he hb
    rw [getD_set _ _ _ hli] at hlj ⊢
    by_cases hji : j = i
    · subst hji
      rw [ho] at hoj
      injection hoj with hoj
      subst hoj
      simp [hr e he hb]
    · simp only [beq_iff_eq, hji, Bool.or_eq_true, false_or] at hlj
      simp [h.closed j oj hoj hlj e he hb]
  · intro j hj
    rw [getD_set _ _ _ hli]
    have hji : j ≠ i := fun e => hj (e ▸ hi)
    simp [hji, h.out j hj]
  · intro j hj hlj t ht
    rw [getD_set _ _ _ hli] at hlj
    by_cases hd : o.dst = some t
    · have := hone j hj t ht hd
      subst this
      rw [hd]
      rcases Nat.lt_or_ge t a.tmps.size with hs | hs
      · rw [put_getD _ _ _ _ hs, if_pos rfl]
        exact hw2 _ _ _ (hv t hd)
      · rw [put_getD_ge _ _ _ _ hs, Array.getD_eq_getD_getElem?, Array.getElem?_eq_none hs, Option.getD_none, ← hu t hd hs]
        exact hw2 _ _ _ (hv t hd)
    · have hji : j ≠ i := by
        intro e
        subst e
        rw [ho, Option.bind_some] at ht
        exact hd ht
      simp only [beq_iff_eq, hji, Bool.or_eq_true, false_or] at hlj
      have hold : (F2 t).p (a.tmps.getD t undef) w' := by
        by_cases his : i = s
        · subst his; exact (hmn2 t hd _).2 rfl (h.newE hun j hj hlj t ht)
        · exact (hmn2 t hd _).1 his (h.new j hj hlj t ht)
      cases hdd : o.dst with
      | none => exact hold
      | some d =>
        have hne : t ≠ d := fun e => hd (by rw [hdd, e])
        rcases Nat.lt_or_ge d a.tmps.size with hs | hs
        · rw [put_getD _ _ _ _ hs, if_neg hne]; exact hold
        · rw [put_getD_ge _ _ _ _ hs]; exact hold
  · intro hls hlx p hp hly
    have his : i ≠ s := by
      intro e
      rw [getD_set _ _ _ hli, e] at hls
      simp at hls
    have hls' : l.getD s false = false := by
      rw [getD_set _ _ _ hli] at hls
      simp only [Bool.or_eq_false_iff] at hls
      exact hls.2
    rw [getD_set _ _ _ hli] at hlx hly
    have hput : ∀ t, o.dst ≠ some t → (a.put o.dst v).tmps.getD t undef = a.tmps.getD t undef := by
      intro t ht
      cases hdd : o.dst with
      | none => rfl
      | some d =>
        have hnd : t ≠ d := fun e => ht (by rw [hdd, e])
        rcases Nat.lt_or_ge d a.tmps.size with hs | hs
        · rw [put_getD _ _ _ _ hs, if_neg hnd]
        · rw [put_getD_ge _ _ _ _ hs]
    have hown : ∀ d, o.dst = some d → (a.put o.dst v).tmps.getD d undef = v := by
      intro d hd
      rw [hd]
      rcases Nat.lt_or_ge d a.tmps.size with hs | hs
      · rw [put_getD _ _ _ _ hs, if_pos rfl]
      · rw [put_getD_ge _ _ _ _ hs, Array.getD_eq_getD_getElem?, Array.getElem?_eq_none hs, Option.getD_none, ← hu d hd hs]
    obtain ⟨hpx, hpt, hpL, hpd, _⟩ := hP.y p hp
    by_cases hix : i = x
    · have hd : o.dst = some tx := by have := hP.xd; rw [← hix, ho, Option.bind_some] at this; exact this
      have hyx : (p.1 == i) = false := by rw [beq_eq_false_iff_ne, hix]; exact hpx
      rw [hyx, Bool.false_or] at hly
      rw [hown tx hd, hput p.2 (by rw [hd]; intro e; injection e with e; exact hpt e.symm)]
      exact hGs.2.1 hix p hp _ (h.newE hls' p.1 hpL hly p.2 hpd)
    · have hxi : (x == i) = false := by rw [beq_eq_false_iff_ne]; exact fun e => hix e.symm
      rw [hxi, Bool.false_or] at hlx
      by_cases hiy : i = p.1
      · have hd : o.dst = some p.2 := by rw [← hiy, ho, Option.bind_some] at hpd; exact hpd
        rw [hown p.2 hd, hput tx (by rw [hd]; intro e; injection e with e; exact hpt e)]
        refine hGs.2.2 p hp hiy _ (h.newE hls' x hP.xL hlx tx hP.xd) (fun q hq hbit => h.rel hls' hlx q hq ?_)
        exact ahead_listed hC h.closed q.1 (hLlt _ (hP.y q hq).2.2.1) i hlt (fun o' ho' e he hbb => by rw [ho] at ho'; injection ho' with ho'; subst ho'; exact hr e he hbb) hbit
      · have hyi : (p.1 == i) = false := by rw [beq_eq_false_iff_ne]; exact fun e => hiy e.symm
        rw [hyi, Bool.false_or] at hly
        rw [hput tx (fun e => hix (hone x hP.xL tx hP.xd e).symm), hput p.2 (fun e => hiy (hone p.1 hpL p.2 hpd e).symm)]
        exact hP.mono _ _ _ _ (hex his) (h.rel hls' hlx p hp hly)
  · intro hls j hj hlj t ht
    have his : i ≠ s := by
      intro e
      rw [getD_set _ _ _ hli, e] at hls
      simp at hls
    have hls' : l.getD s false = false := by
      rw [getD_set _ _ _ hli] at hls
      simp only [Bool.or_eq_false_iff] at hls
      exact hls.2
    rw [getD_set _ _ _ hli] at hlj
    by_cases hd : o.dst = some t
    · have := hone j hj t ht hd
      subst this
      rw [hd]
      rcases Nat.lt_or_ge t a.tmps.size with hs | hs
      · rw [put_getD _ _ _ _ hs, if_pos rfl]
        exact hv t hd
      · rw [put_getD_ge _ _ _ _ hs, Array.getD_eq_getD_getElem?, Array.getElem?_eq_none hs, Option.getD_none, ← hu t hd hs]
        exact hv t hd
    · have hji : j ≠ i := by
        intro e
        subst e
        rw [ho, Option.bind_some] at ht
        exact hd ht
      simp only [beq_iff_eq, hji, Bool.or_eq_true, false_or] at hlj
      have hold := hmnE his t hd _ (h.newE hls' j hj hlj t ht)
      cases hdd : o.dst with
      | none => exact hold
      | some d =>
        have hne : t ≠ d := fun e => hd (by rw [hdd, e])
        rcases Nat.lt_or_ge d a.tmps.size with hs | hs
        · rw [put_getD _ _ _ _ hs, if_neg hne]; exact hold
        · rw [put_getD_ge _ _ _ _ hs]; exact hold
  · intro t ht
    have hne : o.dst ≠ some t := by
      intro e
      refine ht i hi ?_ (by rw [ho, Option.bind_some, e])
      rw [getD_set _ _ _ hli]
      simp
    have hold : a.tmps.getD t undef = a0.tmps.getD t undef := h.old t fun j hj hlj => ht j hj (by rw [getD_set _ _ _ hli, hlj]; simp)
    rw [← hold]
    cases hdd : o.dst with
    | none => rfl
    | some d =>
      have hne : t ≠ d := fun e => hne (by rw [hdd, e])
      rcases Nat.lt_or_ge d a.tmps.size with hs | hs
      · rw [put_getD _ _ _ _ hs, if_neg hne]
      · rw [put_getD_ge _ _ _ _ hs]
theorem wpAny_flow_aux {x tx : Nat} {Y : List (Nat × Tmp)} {J : Value → Value → World → Prop} {G : Act → World → Prop} (hGE : ∀ a w w', Ext w w' → G a w → G a w') {R : World → World → Prop} {s : Nat} (hRE : ∀ w w', Ext w w' → R w w') (hRT : ∀ {a b c}, R a b → R b c → R a c) (hs : s < ops.size) {L : List Nat} {F F2 : Tmp → SP} {C : Array Nat} {a0 : Act} {w0 : World} {l0 : Array Bool} (hC : certB ops C = true) (hfit : fitB ops C l0 L = true) (hdeps : depsB ops l0 L = true)
    (hrg : rangeB ops a0.tmps.size = true) (hnd : L.Nodup) (hsL : s ∈ L) (hself : (C.getD s 0).testBit s = false) (rest : Nat)
    (hP : PairOK ops C L s x tx Y J) (hw2 : ∀ t u w, (F t).p u w → (F2 t).p u w) (hmono : ∀ t, (ops[s]?).bind (·.dst) ≠ some t → ∀ u w w', R w w' → (F t).p u w → (F2 t).p u w')
    (hop : ∀ i ∈ L, ∀ o, ops[i]? = some o → ∀ a w, Known tx Y J R s ops C L F F2 a0 w0 i a w → Does (if i = s then R else Ext) (Xt C F G J s x tx Y i) P ops Q F o a w)
    (hend : ∀ a w, Ends R G s C ops L F F2 a0 w0 a w → wpAny P .any ops Q rest (marked l0 L) a w) :
    ∀ (m : Nat) (l : Array Bool) (a : Act) (w : World), left l L = m → Inv x tx Y J R G s C ops L F F2 a0 w0 l0 l a w → wpAny P .any ops Q (m + rest) l a w := by
  have hLlt : ∀ i ∈ L, i < ops.size := by
    intro i hi
    simp only [fitB, Bool.and_eq_true, List.all_eq_true] at hfit
    have := hfit.1.1.2 i hi
    simp only [decide_eq_true_eq] at this
    exact this.1
  have hl0s : l0.size = ops.size := by
    simp only [fitB, Bool.and_eq_true, beq_iff_eq] at hfit
    exact hfit.1.1.1
  intro m
  induction m with
  | zero =>
    intro l a w hm h
    have hall : ∀ i ∈ L, l.getD i false = true := by
      intro i hi
      cases hb : l.getD i false with
      | true => rfl
      | false =>
        have := List.countP_eq_zero.1 hm i hi
        rw [hb] at this
        simp at this
    have hl : l = marked l0 L := by
      apply Array.ext
      · rw [marked_size, h.lsize, hl0s]
      · intro j h1 h2
        have hj := marked_getD L l0 (fun i hi => by rw [hl0s]; exact hLlt i hi) j
        have e1 : l.getD j false = l[j] := by rw [Array.getD_eq_getD_getElem?, Array.getElem?_eq_getElem h1, Option.getD_some]
        have e2 : (marked l0 L).getD j false = (marked l0 L)[j] := by rw [Array.getD_eq_getD_getElem?, Array.getElem?_eq_getElem h2, Option.getD_some]
        rw [← e1, ← e2, hj]
        by_cases hjL : j ∈ L
        · simp [hjL, hall j hjL]
        · simp [hjL, h.out j hjL]
    rw [Nat.zero_add, hl]
    refine hend a w ⟨h.ext, h.size, h.defers, h.post (hall s hsL), fun j hj t ht => h.new j hj (hall j hj) t ht, fun t ht => h.old t fun j hj _ e => ?_⟩
    rw [List.all_eq_true] at ht
    have := ht j hj
    rw [e] at this
    simp at this
  | succ m ih =>
    intro l a w hm h
    have hun : ∃ i ∈ L, l.getD i false = false ∧ ∀ j ∈ L, j < i → l.getD j false = true := by
      rcases unlisted l L with h1 | h1
      · have : left l L = 0 := by
          unfold left
          rw [List.countP_eq_zero]
          intro i hi
          rw [h1 i hi]
          simp
        omega
      · exact h1
    have hready : ∀ i ∈ Region.ready .any ops l, i ∈ L := by
      intro i hi
      obtain ⟨o, ho, hb, hd⟩ := mem_ready' hi h.lsize
      apply Classical.byContradiction
      intro hnL
      obtain ⟨k, hk, hkb, _⟩ := hun
      have hilt : i < ops.size := (Array.getElem?_eq_some_iff.1 ho).1
      have hb0 : l0.getD i false = false := by rw [← h.out i hnL]; exact hb
      have hbit : (C.getD i 0).testBit k = true := by
        simp only [fitB, Bool.and_eq_true, List.all_eq_true] at hfit
        have h1 := hfit.1.2 i (List.mem_range.2 hilt)
        simp only [hb0, Bool.false_or, Bool.or_eq_true, List.contains_iff_mem, hnL, false_or, List.all_eq_true] at h1
        exact h1 k hk
      have := ahead_listed hC h.closed k (hLlt k hk) i hilt (fun o' ho' e he hbb => by rw [ho] at ho'; injection ho' with ho'; subst ho'; exact hd e he hbb) hbit
      rw [this] at hkb
      cases hkb
    have hne : Region.ready .any ops l ≠ [] := by
      obtain ⟨k, hk, hkb, hmin⟩ := hun
      have hklt := hLlt k hk
      have hmem : k ∈ Region.ready .any ops l := by
        refine mem_ready.2 ⟨?_, ops[k], Array.getElem?_eq_getElem hklt, fun e he hb => ?_⟩
        · have hkl : k < l.size := by rw [h.lsize]; exact hklt
          rw [Array.getD_eq_getD_getElem?, Array.getElem?_eq_getElem hkl, Option.getD_some] at hkb ⊢
          exact hkb
        · simp only [depsB, List.all_eq_true] at hdeps
          have h1 := hdeps k hk
          rw [Array.getElem?_eq_getElem hklt] at h1
          simp only [Option.map_some, Option.getD_some, Array.all_eq_true_iff_forall_mem] at h1
          have h2 := h1 e he
          simp only [hb, Bool.not_true, Bool.false_or, Bool.or_eq_true, Bool.and_eq_true, List.contains_iff_mem, decide_eq_true_eq] at h2
          rcases h2 with h2 | ⟨h2, h3⟩
          · by_cases hel : e.on ∈ L
            · have helt := hLlt e.on hel
              simp only [fitB, Bool.and_eq_true, List.all_eq_true] at hfit
              have h4 := hfit.1.1.2 e.on hel
              simp [h2] at h4
            · rw [h.out e.on hel]; exact h2
          · exact hmin e.on h2 h3
      intro hnil
      rw [hnil] at hmem
      cases hmem
    rw [show m + 1 + rest = (m + rest) + 1 from by omega]
    refine wpAny_fuel_ready hne fun i hi => ?_
    have hiL := hready i hi
    obtain ⟨o, ho, hb, hd⟩ := mem_ready' hi h.lsize
    have hilt : i < ops.size := (Array.getElem?_eq_some_iff.1 ho).1
    have hleft : left (l.setIfInBounds i true) L = m := by
      have h1 := left_set l i (by rw [h.lsize]; exact hilt) L hnd hiL hb
      omega
    have hdstlt : ∀ d, o.dst = some d → d < a0.tmps.size := by
      intro d hd'
      simp only [rangeB, Array.all_eq_true_iff_forall_mem] at hrg
      have := hrg o (Array.mem_of_getElem? ho)
      rw [hd'] at this
      simpa using this
    have hknown : Known tx Y J R s ops C L F F2 a0 w0 i a w := by
      have hse : (i = s ∨ (C.getD s 0).testBit i = true) → l.getD s false = false := by
        intro hes
        rcases hes with rfl | hes
        · exact hb
        · cases hls : l.getD s false with
          | false => rfl
          | true =>
            have := ahead_listed hC h.closed i hilt s hs (fun o' ho' e he hbb => h.closed s o' ho' hls e he hbb) hes
            rw [hb] at this; cases this
      refine ⟨h.ext, fun hes => h.early (hse hes), h.size, fun t ht => ?_, fun hes t ht => ?_, fun t ht => ?_, fun his => ?_⟩
      · simp only [depB, List.any_eq_true, Bool.and_eq_true, beq_iff_eq] at ht
        obtain ⟨j, hj, hbit, hdst⟩ := ht
        exact h.new j hj (ahead_listed hC h.closed j (hLlt j hj) i hilt (fun o' ho' e he hbb => by rw [ho] at ho'; injection ho' with ho'; subst ho'; exact hd e he hbb) hbit) t hdst
      · simp only [depB, List.any_eq_true, Bool.and_eq_true, beq_iff_eq] at ht
        obtain ⟨j, hj, hbit, hdst⟩ := ht
        exact h.newE (hse hes) j hj (ahead_listed hC h.closed j (hLlt j hj) i hilt (fun o' ho' e he hbb => by rw [ho] at ho'; injection ho' with ho'; subst ho'; exact hd e he hbb) hbit) t hdst
      · refine h.old t fun j hj hlj hdst => ?_
        simp only [oldB, List.all_eq_true] at ht
        have h1 := ht j hj
        simp only [hdst, bne_self_eq_false, Bool.false_or, Bool.or_eq_true, beq_iff_eq] at h1
        rcases h1 with rfl | h1
        · rw [hb] at hlj; cases hlj
        · have hjlt := hLlt j hj
          have := ahead_listed hC h.closed i hilt j hjlt (fun o' ho' e he hbb => h.closed j o' ho' hlj e he hbb) h1
          rw [hb] at this; cases this
      · have hah : ∀ j ∈ L, (C.getD s 0).testBit j = true → l.getD j false = true := fun j hj hbit => by
          subst his
          exact ahead_listed hC h.closed j (hLlt j hj) i hilt (fun o' ho' e he hbb => by rw [ho] at ho'; injection ho' with ho'; subst ho'; exact hd e he hbb) hbit
        exact fun p hp => h.rel (hse (.inl his)) (hah x hP.xL hP.xs) p hp (hah p.1 (hP.y p hp).2.2.1 (hP.y p hp).2.2.2.2)
    have hdoes := hop i hiL o ho a w hknown
    unfold wpOp
    rw [ho]
    unfold Does at hdoes
    show if Region.wanted o (yielded ops a.tmps) = true then _ else _
    split
    · rename_i hw
      rw [if_pos hw] at hdoes
      refine .inl (Oper.wp_mono (fun a' w' hk => ?_) hdoes)
      obtain ⟨v, rfl, hx, hgs, hv⟩ := hk
      have hxR : R w w' := by
        split at hx
        · exact hx
        · exact hRE _ _ hx
      refine ih _ _ _ hleft (h.step hGE hC hLlt hs hself hfit hiL ho hd (hRT h.ext hxR) (fun hne => by rw [if_neg hne] at hx; exact hx) hP hgs hb hw2 (fun t ht u => ⟨fun his hu => ?_, fun his hu => ?_⟩) (fun his t ht u hu => ?_) hv fun d hd' hge => absurd (hdstlt d hd') (Nat.not_lt.2 (h.size ▸ hge)))
      · rw [if_neg his] at hx
        exact (F2 t).mono _ _ _ hx hu
      · subst his
        exact hmono t (by rw [ho]; exact ht) u _ _ hxR hu
      · rw [if_neg his] at hx
        exact (F t).mono _ _ _ hx hu
    · rename_i hw
      rw [if_neg hw] at hdoes
      exact ih _ _ _ hleft (h.step hGE hC hLlt hs hself hfit hiL ho hd h.ext (fun _ => Ext.refl w) hP hdoes.1 hb hw2 (fun t ht u => ⟨fun _ hu => hu, fun _ hu => hw2 _ _ _ hu⟩) (fun _ t ht u hu => hu) hdoes.2 fun d hd' hge => rfl)
theorem wpAny_flow {x tx : Nat} {Y : List (Nat × Tmp)} {J : Value → Value → World → Prop} {G : Act → World → Prop} (hGE : ∀ a w w', Ext w w' → G a w → G a w') {R : World → World → Prop} {s : Nat} (hRE : ∀ w w', Ext w w' → R w w') (hRT : ∀ {a b c}, R a b → R b c → R a c) (hs : s < ops.size) {L : List Nat} {F F2 : Tmp → SP} {C : Array Nat} {a0 : Act} {w0 : World} {l0 : Array Bool} (hC : certB ops C = true) (hcl : closedB ops l0 = true) (hfit : fitB ops C l0 L = true) (hdeps : depsB ops l0 L = true)
    (hrg : rangeB ops a0.tmps.size = true) (hnd : L.Nodup) (hsL : s ∈ L) (hself : (C.getD s 0).testBit s = false) (rest : Nat)
    (hP : PairOK ops C L s x tx Y J) (hw2 : ∀ t u w, (F t).p u w → (F2 t).p u w) (hmono : ∀ t, (ops[s]?).bind (·.dst) ≠ some t → ∀ u w w', R w w' → (F t).p u w → (F2 t).p u w')
    (hop : ∀ i ∈ L, ∀ o, ops[i]? = some o → ∀ a w, Known tx Y J R s ops C L F F2 a0 w0 i a w → Does (if i = s then R else Ext) (Xt C F G J s x tx Y i) P ops Q F o a w)
    (hend : ∀ a w, Ends R G s C ops L F F2 a0 w0 a w → wpAny P .any ops Q rest (marked l0 L) a w) : wpAny P .any ops Q (L.length + rest) l0 a0 w0 := by
  have hl0 : ∀ i ∈ L, l0.getD i false = false := by
    intro i hi
    simp only [fitB, Bool.and_eq_true, List.all_eq_true] at hfit
    have := hfit.1.1.2 i hi
    simp only [Bool.not_eq_true'] at this
    exact this.2
  have hl0s : l0.size = ops.size := by
    simp only [fitB, Bool.and_eq_true, beq_iff_eq] at hfit
    exact hfit.1.1.1
  have hleft : left l0 L = L.length := by
    unfold left
    rw [List.countP_eq_length]
    intro i hi
    rw [hl0 i hi]; rfl
  refine wpAny_flow_aux hGE hRE hRT hs hC hfit hdeps hrg hnd hsL hself rest hP hw2 hmono hop hend L.length l0 a0 w0 hleft ⟨hRE _ _ (Ext.refl _), fun _ => Ext.refl _, fun h => absurd h (by rw [hl0 s hsL]; simp), rfl, rfl, hl0s, ?_, fun _ _ => rfl, fun j hj hlj => ?_, fun _ hlx _ _ _ => ?_, fun _ j hj hlj => ?_, fun _ _ => rfl⟩
  · intro j o ho hlj e he hb
    have hjlt : j < ops.size := (Array.getElem?_eq_some_iff.1 ho).1
    simp only [closedB, List.all_eq_true] at hcl
    have h1 := hcl j (List.mem_range.2 hjlt)
    rw [ho] at h1
    simp only [hlj, Bool.not_true, Bool.false_or, Option.map_some, Option.getD_some, Array.all_eq_true_iff_forall_mem, Bool.or_eq_true, Bool.not_eq_true'] at h1
    rcases h1 e he with h2 | h2
    · rw [hb] at h2; cases h2
    · exact h2
  · rw [hl0 j hj] at hlj; cases hlj
  · rw [hl0 x hP.xL] at hlx; cases hlx
  · rw [hl0 j hj] at hlj; cases hlj
theorem wp_region_flow_tail {x tx : Nat} {Y : List (Nat × Tmp)} {J : Value → Value → World → Prop} {G : Act → World → Prop} (hGE : ∀ a w w', Ext w w' → G a w → G a w') {R : World → World → Prop} {s : Nat} (hRE : ∀ w w', Ext w w' → R w w') (hRT : ∀ {a b c}, R a b → R b c → R a c) (hs : s < ops.size) {id : Nat} {F F2 : Tmp → SP} (C : Array Nat) (m : Nat) {a0 : Act} {w0 : World} (hm : P.follows .mixedOrders = true) (hmn : m ≤ ops.size) (hsm : s < m) (hself : (C.getD s 0).testBit s = false) (hC : certB ops C = true) (ht : tailB ops C m = true)
    (hfit : fitB ops C (Array.replicate ops.size false) (List.range m) = true) (hdeps : depsB ops (Array.replicate ops.size false) (List.range m) = true) (hrg : rangeB ops a0.tmps.size = true)
    (hP : PairOK ops C (List.range m) s x tx Y J) (hw2 : ∀ t u w, (F t).p u w → (F2 t).p u w) (hmono : ∀ t, (ops[s]?).bind (·.dst) ≠ some t → ∀ u w w', R w w' → (F t).p u w → (F2 t).p u w')
    (hop : ∀ i, i < m → ∀ o, ops[i]? = some o → ∀ a w, Known tx Y J R s ops C (List.range m) F F2 a0 { w0 with drawn := w0.drawn + 1 } i a w → Does (if i = s then R else Ext) (Xt C F G J s x tx Y i) P ops Q F o a w)
    (hend : ∀ a w, Ends R G s C ops (List.range m) F F2 a0 { w0 with drawn := w0.drawn + 1 } a w → wpList P ops Q (ops.toList.drop m) a w) : (Code.region id ops true).wp P Q a0 w0 := by
  refine wp_region_any hm ?_
  have h := wpAny_flow hGE hRE hRT hs (P := P) (Q := Q) (ops := ops) (L := List.range m) (F := F) (F2 := F2) (C := C) (a0 := a0) (w0 := { w0 with drawn := w0.drawn + 1 }) (l0 := Array.replicate ops.size false) hC ?_ hfit hdeps hrg List.nodup_range (List.mem_range.2 hsm) hself (ops.size - m) hP hw2 hmono
    (fun i hi o ho a w hk => hop i (List.mem_range.1 hi) o ho a w hk) ?_
  · simpa [show m + (ops.size - m) = ops.size from by omega] using h
  · simp only [closedB, List.all_eq_true]
    intro j _
    have : (Array.replicate ops.size false).getD j false = false := by
      rw [Array.getD_eq_getD_getElem?, Array.getElem?_replicate]
      split <;> rfl
    rw [this]; rfl
  · intro a w he
    rw [marked_range _ _ hmn]
    exact wpAny_tail hC ht _ m (by omega) (Nat.le_refl _) a w (hend a w he)
theorem Ends.out {R : World → World → Prop} {G : Act → World → Prop} {s : Nat} {C : Array Nat} {L : List Nat} {F F2 : Tmp → SP} {a0 : Act} {w0 : World} {a : Act} {w : World} (h : Ends R G s C ops L F F2 a0 w0 a w) (ds : List Nat) (hd : (L.filterMap fun j => (ops[j]?).bind (·.dst)) = ds) :
    ∃ us : Nat → Value, a = ⟨(fillL ds us 0 a0.tmps.toList).toArray, a0.defers⟩ ∧ ∀ t ∈ ds, (F2 t).p (us t) w := by
  refine ⟨fun t => a.tmps.getD t undef, ?_, fun t ht => ?_⟩
  · obtain ⟨tmps, defers⟩ := a
    have h1 := h.size
    have h2 := h.defers
    have h3 := h.old
    simp only at h1 h2 h3
    subst h2
    congr 1
    apply Array.ext
    · simp [fillL_length, h1]
    · intro j j1 j2
      have e : (fillL ds (fun t => tmps.getD t undef) 0 a0.tmps.toList)[j]? = some tmps[j] := by
        rw [fillL_get, Nat.zero_add]
        have hj : j < a0.tmps.size := by rw [← h1]; exact j1
        rw [Array.getElem?_toList, Array.getElem?_eq_getElem hj, Option.map_some]
        have e1 : tmps.getD j undef = tmps[j] := by rw [Array.getD_eq_getD_getElem?, Array.getElem?_eq_getElem j1, Option.getD_some]
        by_cases hc : ds.contains j = true
        · rw [if_pos hc, e1]
        · rw [if_neg hc]
          have h4 := h3 j (by
            rw [List.all_eq_true]
            intro q hq
            rw [bne_iff_ne]
            intro he
            apply hc
            rw [List.contains_iff_mem, ← hd]
            exact List.mem_filterMap.2 ⟨q, hq, he⟩)
          rw [e1, Array.getD_eq_getD_getElem?, Array.getElem?_eq_getElem hj, Option.getD_some] at h4
          rw [h4]
      rw [List.getElem_toArray]
      have := (List.getElem?_eq_some_iff.1 e).2
      exact this.symm
  · rw [← hd] at ht
    obtain ⟨j, hj, hjd⟩ := List.mem_filterMap.1 ht
    exact h.new j hj t hjd
def OpsDo (x tx : Nat) (Y : List (Nat × Tmp)) (J : Value → Value → World → Prop) (G : Act → World → Prop) (R : World → World → Prop) (s : Nat) (P : Program) (ops : Array Oper) (Q : Exit → Act → World → Prop) (C : Array Nat) (L : List Nat) (F F2 : Tmp → SP) (a0 : Act) (w0 : World) : Nat → List Oper → Prop
  | _, [] => True
  | i, o :: l => (∀ a w, Known tx Y J R s ops C L F F2 a0 w0 i a w → Does (if i = s then R else Ext) (Xt C F G J s x tx Y i) P ops Q F o a w) ∧ OpsDo x tx Y J G R s P ops Q C L F F2 a0 w0 (i + 1) l
theorem OpsDo.at_ {x tx : Nat} {Y : List (Nat × Tmp)} {J : Value → Value → World → Prop} {G : Act → World → Prop} {R : World → World → Prop} {s : Nat} {C : Array Nat} {L : List Nat} {F F2 : Tmp → SP} {a0 : Act} {w0 : World} : ∀ (l : List Oper) (k : Nat), OpsDo x tx Y J G R s P ops Q C L F F2 a0 w0 k l → ∀ i o, l[i]? = some o → ∀ a w, Known tx Y J R s ops C L F F2 a0 w0 (k + i) a w → Does (if k + i = s then R else Ext) (Xt C F G J s x tx Y (k + i)) P ops Q F o a w
  | [], _, _, i, o, h => by simp at h
  | x :: l, k, h, 0, o, ho => by
    intro a w hk
    obtain rfl : x = o := by simpa using ho
    exact h.1 a w hk
  | x :: l, k, h, i + 1, o, ho => by
    intro a w hk
    have := OpsDo.at_ l (k + 1) h.2 i o (by simpa using ho) a w (by rw [Nat.add_right_comm]; exact hk)
    rw [Nat.add_right_comm] at this; exact this
theorem wp_region_flow_l {x tx : Nat} {Y : List (Nat × Tmp)} {J : Value → Value → World → Prop} {G : Act → World → Prop} (hGE : ∀ a w w', Ext w w' → G a w → G a w') {R : World → World → Prop} (s : Nat) (hRE : ∀ w w', Ext w w' → R w w') (hRT : ∀ {a b c}, R a b → R b c → R a c) {id : Nat} (F F2 : Tmp → SP) (m : Nat) {a0 : Act} {w0 : World} (hm : P.follows .mixedOrders = true) (n : Nat) (hn : a0.tmps.size = n) (hB : flowB ops m n = true)
    (hs : s < ops.size) (hsm : s < m) (hself : ((Region.before ops).getD s 0).testBit s = false) (hP : PairOK ops (Region.before ops) (List.range m) s x tx Y J) (hw2 : ∀ t u w, (F t).p u w → (F2 t).p u w) (hmono : ∀ t, (ops[s]?).bind (·.dst) ≠ some t → ∀ u w w', R w w' → (F t).p u w → (F2 t).p u w')
    (hop : OpsDo x tx Y J G R s P ops Q (Region.before ops) (List.range m) F F2 a0 w0.drew 0 (ops.toList.take m))
    (hend : ∀ a w, Ends R G s (Region.before ops) ops (List.range m) F F2 a0 w0.drew a w → wpList P ops Q (ops.toList.drop m) a w) : (Code.region id ops true).wp P Q a0 w0 := by
  simp only [flowB, Bool.and_eq_true, decide_eq_true_eq] at hB
  obtain ⟨⟨⟨⟨⟨h1, h2⟩, h3⟩, h4⟩, h5⟩, h6⟩ := hB
  exact wp_region_flow_tail hGE hRE hRT hs (Region.before ops) m hm h1 hsm hself h2 h3 h4 h5 (by rw [hn]; exact h6) hP hw2 hmono (fun i hi o ho a w hk => by have := OpsDo.at_ (ops.toList.take m) 0 hop i o (by rw [List.getElem?_take]; simpa [hi] using ho) a w (by rw [Nat.zero_add]; exact hk); rw [Nat.zero_add] at this; exact this) hend
theorem does_intro {Rl : World → World → Prop} {G : Act → World → Value → World → Prop} {F : Tmp → SP} {o : Oper} {a : Act} {w : World} (hg : Region.wanted o (yielded ops a.tmps) = true)
    (h : ∀ K : Act → World → Prop, (∀ v w', Rl w w' → G a w v w' → (∀ d, o.dst = some d → (F d).p v w') → K (a.put o.dst v) w') → o.wp P a w K Q) : Does Rl G P ops Q F o a w := by
  unfold Does
  rw [if_pos hg]
  exact h _ fun v w' h1 hg h2 => ⟨v, rfl, h1, hg, h2⟩
def over : List (Tmp × SP) → (Tmp → SP) → Tmp → SP
  | [], F, t => F t
  | (k, q) :: l, F, t => cond (Nat.beq t k) q (over l F t)
theorem over_weak {F : Tmp → SP} : ∀ {l : List (Tmp × SP)}, (∀ x ∈ l, ∀ u w, (F x.1).p u w → x.2.p u w) → ∀ t u w, (F t).p u w → (over l F t).p u w
  | [], _, t, u, w, h => h
  | (k, q) :: l, hl, t, u, w, h => by
    unfold over
    cases hb : Nat.beq t k with
    | true =>
      obtain rfl := Nat.eq_of_beq_eq_true hb
      exact hl (t, q) (by simp) u w h
    | false => exact over_weak (fun x hx => hl x (by simp [hx])) t u w h
end FlowJ
end Go.Proofs.Ytgkgedjmnbjalaa
set_option linter.unusedSimpArgs false
set_option linter.unusedVariables false
namespace Go.Proofs.Ytgkgedjmnbjalaa
open Go.RowKit
namespace FlowS
open Flow (certB closedB fitB depB oldB depsB rangeB tailB flowB fillL marked left ahead_listed getD_set put_getD put_getD_ge put_size put_defers' mem_ready' marked_size marked_getD unlisted left_set wpAny_fuel_ready upto wpAny_tail marked_range fillL_length fillL_get countP_set countP_other upto_getD upto_size upto_set)
variable {P : Program} {ops : Array Oper} {Q : Exit → Act → World → Prop}
structure Known (R : World → World → Prop) (s : Nat) (ops : Array Oper) (C : Array Nat) (L : List Nat) (F : Tmp → SP) (a0 : Act) (w0 : World) (i : Nat) (a : Act) (w : World) : Prop where
  ext : R w0 w
  early : (i = s ∨ (C.getD s 0).testBit i = true) → Ext w0 w
  size : a.tmps.size = a0.tmps.size
  dep : ∀ t, depB ops C L i t = true → (F t).p (a.tmps.getD t undef) w
  old : ∀ t, oldB ops C L i t = true → a.tmps.getD t undef = a0.tmps.getD t undef
theorem Known.v {R : World → World → Prop} {s : Nat} {C : Array Nat} {L : List Nat} {F : Tmp → SP} {a0 : Act} {w0 : World} {i : Nat} {a : Act} {w : World} (h : Known R s ops C L F a0 w0 i a w) (t : Tmp) (hd : depB ops C L i t = true) : (F t).p (a.tmps[t]?.getD undef) w := by
  have := h.dep t hd
  rwa [Array.getD_eq_getD_getElem?] at this
theorem Known.o {R : World → World → Prop} {s : Nat} {C : Array Nat} {L : List Nat} {F : Tmp → SP} {a0 : Act} {w0 : World} {i : Nat} {a : Act} {w : World} (h : Known R s ops C L F a0 w0 i a w) (t : Tmp) (hd : oldB ops C L i t = true) : a.tmps[t]?.getD undef = a0.tmps.getD t undef := by
  have := h.old t hd
  rwa [Array.getD_eq_getD_getElem?] at this
def Does (Rl : World → World → Prop) (P : Program) (ops : Array Oper) (Q : Exit → Act → World → Prop) (F : Tmp → SP) (o : Oper) (a : Act) (w : World) : Prop :=
  if Region.wanted o (yielded ops a.tmps) then o.wp P a w (fun a' w' => ∃ v, a' = a.put o.dst v ∧ Rl w w' ∧ ∀ d, o.dst = some d → (F d).p v w') Q
  else ∀ d, o.dst = some d → (F d).p undef w
structure Ends (R : World → World → Prop) (ops : Array Oper) (L : List Nat) (F : Tmp → SP) (a0 : Act) (w0 : World) (a : Act) (w : World) : Prop where
  ext : R w0 w
  size : a.tmps.size = a0.tmps.size
  defers : a.defers = a0.defers
  new : ∀ j ∈ L, ∀ t, (ops[j]?).bind (·.dst) = some t → (F t).p (a.tmps.getD t undef) w
  old : ∀ t, (L.all fun j => ((ops[j]?).bind (·.dst)) != some t) = true → a.tmps.getD t undef = a0.tmps.getD t undef
structure Inv (R : World → World → Prop) (s : Nat) (ops : Array Oper) (L : List Nat) (F : Tmp → SP) (a0 : Act) (w0 : World) (l0 l : Array Bool) (a : Act) (w : World) : Prop where
  ext : R w0 w
  early : l.getD s false = false → Ext w0 w
  size : a.tmps.size = a0.tmps.size
  defers : a.defers = a0.defers
  lsize : l.size = ops.size
  closed : ∀ j o, ops[j]? = some o → l.getD j false = true → ∀ e ∈ o.after, Region.binds .any e = true → l.getD e.on false = true
  out : ∀ j, j ∉ L → l.getD j false = l0.getD j false
  new : ∀ j ∈ L, l.getD j false = true → ∀ t, (ops[j]?).bind (·.dst) = some t → (F t).p (a.tmps.getD t undef) w
  old : ∀ t, (∀ j ∈ L, l.getD j false = true → (ops[j]?).bind (·.dst) ≠ some t) → a.tmps.getD t undef = a0.tmps.getD t undef
theorem Inv.step {R : World → World → Prop} {s : Nat} {L : List Nat} {F : Tmp → SP} {C : Array Nat} {a0 : Act} {w0 : World} {l0 l : Array Bool} {a : Act} {w : World} (hfit : fitB ops C l0 L = true)
    (h : Inv R s ops L F a0 w0 l0 l a w) {i : Nat} {o : Oper} (hi : i ∈ L) (ho : ops[i]? = some o) (hr : ∀ e ∈ o.after, Region.binds .any e = true → l.getD e.on false = true)
    {v : Value} {w' : World} (hx : R w0 w') (hex : i ≠ s → Ext w w') (hmn : ∀ t, o.dst ≠ some t → ∀ u, (F t).p u w → (F t).p u w') (hv : ∀ d, o.dst = some d → (F d).p v w') (hu : ∀ d, o.dst = some d → a.tmps.size ≤ d → v = undef) :
    Inv R s ops L F a0 w0 l0 (l.setIfInBounds i true) (a.put o.dst v) w' := by
  have hlt : i < ops.size := (Array.getElem?_eq_some_iff.1 ho).1
  have hli : i < l.size := by rw [h.lsize]; exact hlt
  have hone : ∀ j ∈ L, ∀ d, (ops[j]?).bind (·.dst) = some d → o.dst = some d → j = i := by
    intro j hj d h1 h2
    simp only [fitB, Bool.and_eq_true] at hfit
    have hfit := hfit.2
    rw [List.all_eq_true] at hfit
    have hjlt : j < ops.size := by
      rcases Nat.lt_or_ge j ops.size with hh | hh
      · exact hh
      · simp [Array.getElem?_eq_none hh] at h1
    have h3 := hfit j (List.mem_range.2 hjlt)
    rw [List.all_eq_true] at h3
    have h4 := h3 i (List.mem_range.2 hlt)
    simp only [ho, Option.bind_some, h2, h1, Bool.or_eq_true, beq_iff_eq, Bool.not_eq_true', bne_iff_ne, ne_eq, not_true_eq_false, or_false] at h4
    rcases h4 with (h4 | h4) | h4
    · exact h4.symm
    · simp [hi] at h4
    · simp [hj] at h4
  refine ⟨hx, fun hls => ?_, by rw [put_size]; exact h.size, by rw [put_defers']; exact h.defers, by simp [h.lsize], ?_, ?_, ?_, ?_⟩
  · rw [getD_set _ _ _ hli] at hls
    simp only [Bool.or_eq_false_iff, beq_eq_false_iff_ne] at hls
    exact (h.early hls.2).trans (hex (fun e => hls.1 e.symm))
  · intro j oj hoj hlj e he hb
    rw [getD_set _ _ _ hli] at hlj ⊢
    by_cases hji : j = i
    · subst hji
      rw [ho] at hoj
      injection hoj with hoj
      subst hoj
      simp [hr e he hb]
    · simp only [beq_iff_eq, hji, Bool.or_eq_true, false_or] at hlj
      simp [h.closed j oj hoj hlj e he hb]
  · intro j hj
    rw [getD_set _ _ _ hli]
    have hji : j ≠ i := fun e => hj (e ▸ hi)
    simp [hji, h.out j hj]
  · intro j hj hlj t ht
    rw [getD_set _ _ _ hli] at hlj
    by_cases hd : o.dst = some t
    · have := hone j hj t ht hd
      subst this
      rw [hd]
      rcases Nat.lt_or_ge t a.tmps.size with hs | hs
      · rw [put_getD _ _ _ _ hs, if_pos rfl]
        exact hv t hd
      · rw [put_getD_ge _ _ _ _ hs, Array.getD_eq_getD_getElem?, Array.getElem?_eq_none hs, Option.getD_none, ← hu t hd hs]
        exact hv t hd
    · have hji : j ≠ i := by
        intro e
        subst e
        rw [ho, Option.bind_some] at ht
        exact hd ht
      simp only [beq_iff_eq, hji, Bool.or_eq_true, false_or] at hlj
      have hold := hmn t hd _ (h.new j hj hlj t ht)
      cases hdd : o.dst with
      | none => exact hold
      | some d =>
        have hne : t ≠ d := fun e => hd (by rw [hdd, e])
        rcases Nat.lt_or_ge d a.tmps.size with hs | hs
        · rw [put_getD _ _ _ _ hs, if_neg hne]; exact hold
        · rw [put_getD_ge _ _ _ _ hs]; exact hold
  · intro t ht
    have hne : o.dst ≠ some t := by
      intro e
      refine ht i hi ?_ (by rw [ho, Option.bind_some, e])
      rw [getD_set _ _ _ hli]
      simp
    have hold : a.tmps.getD t undef = a0.tmps.getD t undef := h.old t fun j hj hlj => ht j hj (by rw [getD_set _ _ _ hli, hlj]; simp)
    rw [← hold]
    cases hdd : o.dst with
    | none => rfl
    | some d =>
      have hne : t ≠ d := fun e => hne (by rw [hdd, e])
      rcases Nat.lt_or_ge d a.tmps.size with hs | hs
      · rw [put_getD _ _ _ _ hs, if_neg hne]
      · rw [put_getD_ge _ _ _ _ hs]
theorem wpAny_flow_aux {R : World → World → Prop} {s : Nat} (hRE : ∀ w w', Ext w w' → R w w') (hRT : ∀ {a b c}, R a b → R b c → R a c) (hs : s < ops.size) {L : List Nat} {F : Tmp → SP} {C : Array Nat} {a0 : Act} {w0 : World} {l0 : Array Bool} (hC : certB ops C = true) (hfit : fitB ops C l0 L = true) (hdeps : depsB ops l0 L = true)
    (hrg : rangeB ops a0.tmps.size = true) (hnd : L.Nodup) (rest : Nat)
    (hmono : ∀ t, (ops[s]?).bind (·.dst) ≠ some t → ∀ u w w', R w w' → (F t).p u w → (F t).p u w')
    (hop : ∀ i ∈ L, ∀ o, ops[i]? = some o → ∀ a w, Known R s ops C L F a0 w0 i a w → Does (if i = s then R else Ext) P ops Q F o a w)
    (hend : ∀ a w, Ends R ops L F a0 w0 a w → wpAny P .any ops Q rest (marked l0 L) a w) :
    ∀ (m : Nat) (l : Array Bool) (a : Act) (w : World), left l L = m → Inv R s ops L F a0 w0 l0 l a w → wpAny P .any ops Q (m + rest) l a w := by
  have hLlt : ∀ i ∈ L, i < ops.size := by
    intro i hi
    simp only [fitB, Bool.and_eq_true, List.all_eq_true] at hfit
    have := hfit.1.1.2 i hi
    simp only [decide_eq_true_eq] at this
    exact this.1
  have hl0s : l0.size = ops.size := by
    simp only [fitB, Bool.and_eq_true, beq_iff_eq] at hfit
    exact hfit.1.1.1
  intro m
  induction m with
  | zero =>
    intro l a w hm h
    have hall : ∀ i ∈ L, l.getD i false = true := by
      intro i hi
      cases hb : l.getD i false with
      | true => rfl
      | false =>
        have := List.countP_eq_zero.1 hm i hi
        rw [hb] at this
        simp at this
    have hl : l = marked l0 L := by
      apply Array.ext
      · rw [marked_size, h.lsize, hl0s]
      · intro j h1 h2
        have hj := marked_getD L l0 (fun i hi => by rw [hl0s]; exact hLlt i hi) j
        have e1 : l.getD j false = l[j] := by rw [Array.getD_eq_getD_getElem?, Array.getElem?_eq_getElem h1, Option.getD_some]
        have e2 : (marked l0 L).getD j false = (marked l0 L)[j] := by rw [Array.getD_eq_getD_getElem?, Array.getElem?_eq_getElem h2, Option.getD_some]
        rw [← e1, ← e2, hj]
        by_cases hjL : j ∈ L
        · simp [hjL, hall j hjL]
        · simp [hjL, h.out j hjL]
    rw [Nat.zero_add, hl]
    refine hend a w ⟨h.ext, h.size, h.defers, fun j hj t ht => h.new j hj (hall j hj) t ht, fun t ht => h.old t fun j hj _ e => ?_⟩
    rw [List.all_eq_true] at ht
    have := ht j hj
    rw [e] at this
    simp at this
  | succ m ih =>
    intro l a w hm h
    have hun : ∃ i ∈ L, l.getD i false = false ∧ ∀ j ∈ L, j < i → l.getD j false = true := by
      rcases unlisted l L with h1 | h1
      · have : left l L = 0 := by
          unfold left
          rw [List.countP_eq_zero]
          intro i hi
          rw [h1 i hi]
          simp
        omega
      · exact h1
    have hready : ∀ i ∈ Region.ready .any ops l, i ∈ L := by
      intro i hi
      obtain ⟨o, ho, hb, hd⟩ := mem_ready' hi h.lsize
      apply Classical.byContradiction
      intro hnL
      obtain ⟨k, hk, hkb, _⟩ := hun
      have hilt : i < ops.size := (Array.getElem?_eq_some_iff.1 ho).1
      have hb0 : l0.getD i false = false := by rw [← h.out i hnL]; exact hb
      have hbit : (C.getD i 0).testBit k = true := by
        simp only [fitB, Bool.and_eq_true, List.all_eq_true] at hfit
        have h1 := hfit.1.2 i (List.mem_range.2 hilt)
        simp only [hb0, Bool.false_or, Bool.or_eq_true, List.contains_iff_mem, hnL, false_or, List.all_eq_true] at h1
        exact h1 k hk
      have := ahead_listed hC h.closed k (hLlt k hk) i hilt (fun o' ho' e he hbb => by rw [ho] at ho'; injection ho' with ho'; subst ho'; exact hd e he hbb) hbit
      rw [this] at hkb
      cases hkb
    have hne : Region.ready .any ops l ≠ [] := by
      obtain ⟨k, hk, hkb, hmin⟩ := hun
      have hklt := hLlt k hk
      have hmem : k ∈ Region.ready .any ops l := by
        refine mem_ready.2 ⟨?_, ops[k], Array.getElem?_eq_getElem hklt, fun e he hb => ?_⟩
        · have hkl : k < l.size := by rw [h.lsize]; exact hklt
          rw [Array.getD_eq_getD_getElem?, Array.getElem?_eq_getElem hkl, Option.getD_some] at hkb ⊢
          exact hkb
        · simp only [depsB, List.all_eq_true] at hdeps
          have h1 := hdeps k hk
          rw [Array.getElem?_eq_getElem hklt] at h1
          simp only [Option.map_some, Option.getD_some, Array.all_eq_true_iff_forall_mem] at h1
          have h2 := h1 e he
          simp only [hb, Bool.not_true, Bool.false_or, Bool.or_eq_true, Bool.and_eq_true, List.contains_iff_mem, decide_eq_true_eq] at h2
          rcases h2 with h2 | ⟨h2, h3⟩
          · by_cases hel : e.on ∈ L
            · have helt := hLlt e.on hel
              simp only [fitB, Bool.and_eq_true, List.all_eq_true] at hfit
              have h4 := hfit.1.1.2 e.on hel
              simp [h2] at h4
            · rw [h.out e.on hel]; exact h2
          · exact hmin e.on h2 h3
      intro hnil
      rw [hnil] at hmem
      cases hmem
    rw [show m + 1 + rest = (m + rest) + 1 from by omega]
    refine wpAny_fuel_ready hne fun i hi => ?_
    have hiL := hready i hi
    obtain ⟨o, ho, hb, hd⟩ := mem_ready' hi h.lsize
    have hilt : i < ops.size := (Array.getElem?_eq_some_iff.1 ho).1
    have hleft : left (l.setIfInBounds i true) L = m := by
      have h1 := left_set l i (by rw [h.lsize]; exact hilt) L hnd hiL hb
      omega
    have hdstlt : ∀ d, o.dst = some d → d < a0.tmps.size := by
      intro d hd'
      simp only [rangeB, Array.all_eq_true_iff_forall_mem] at hrg
      have := hrg o (Array.mem_of_getElem? ho)
      rw [hd'] at this
      simpa using this
    have hknown : Known R s ops C L F a0 w0 i a w := by
      refine ⟨h.ext, fun hes => h.early ?_, h.size, fun t ht => ?_, fun t ht => ?_⟩
      · rcases hes with rfl | hes
        · exact hb
        · cases hls : l.getD s false with
          | false => rfl
          | true =>
            have := ahead_listed hC h.closed i hilt s hs (fun o' ho' e he hbb => h.closed s o' ho' hls e he hbb) hes
            rw [hb] at this; cases this
      · simp only [depB, List.any_eq_true, Bool.and_eq_true, beq_iff_eq] at ht
        obtain ⟨j, hj, hbit, hdst⟩ := ht
        exact h.new j hj (ahead_listed hC h.closed j (hLlt j hj) i hilt (fun o' ho' e he hbb => by rw [ho] at ho'; injection ho' with ho'; subst ho'; exact hd e he hbb) hbit) t hdst
      · refine h.old t fun j hj hlj hdst => ?_
        simp only [oldB, List.all_eq_true] at ht
        have h1 := ht j hj
        simp only [hdst, bne_self_eq_false, Bool.false_or, Bool.or_eq_true, beq_iff_eq] at h1
        rcases h1 with rfl | h1
        · rw [hb] at hlj; cases hlj
        · have hjlt := hLlt j hj
          have := ahead_listed hC h.closed i hilt j hjlt (fun o' ho' e he hbb => h.closed j o' ho' hlj e he hbb) h1
          rw [hb] at this; cases this
    have hdoes := hop i hiL o ho a w hknown
    unfold wpOp
    rw [ho]
    unfold Does at hdoes
    show if Region.wanted o (yielded ops a.tmps) = true then _ else _
    split
    · rename_i hw
      rw [if_pos hw] at hdoes
      refine .inl (Oper.wp_mono (fun a' w' hk => ?_) hdoes)
      obtain ⟨v, rfl, hx, hv⟩ := hk
      have hxR : R w w' := by
        split at hx
        · exact hx
        · exact hRE _ _ hx
      refine ih _ _ _ hleft (h.step hfit hiL ho hd (hRT h.ext hxR) (fun hne => by rw [if_neg hne] at hx; exact hx) (fun t ht u hu => ?_) hv fun d hd' hge => absurd (hdstlt d hd') (Nat.not_lt.2 (h.size ▸ hge)))
      by_cases his : i = s
      · subst his
        exact hmono t (by rw [ho]; exact ht) u _ _ hxR hu
      · rw [if_neg his] at hx
        exact (F t).mono _ _ _ hx hu
    · rename_i hw
      rw [if_neg hw] at hdoes
      exact ih _ _ _ hleft (h.step hfit hiL ho hd h.ext (fun _ => Ext.refl w) (fun t ht u hu => hu) hdoes fun d hd' hge => rfl)
theorem wpAny_flow {R : World → World → Prop} {s : Nat} (hRE : ∀ w w', Ext w w' → R w w') (hRT : ∀ {a b c}, R a b → R b c → R a c) (hs : s < ops.size) {L : List Nat} {F : Tmp → SP} {C : Array Nat} {a0 : Act} {w0 : World} {l0 : Array Bool} (hC : certB ops C = true) (hcl : closedB ops l0 = true) (hfit : fitB ops C l0 L = true) (hdeps : depsB ops l0 L = true)
    (hrg : rangeB ops a0.tmps.size = true) (hnd : L.Nodup) (rest : Nat)
    (hmono : ∀ t, (ops[s]?).bind (·.dst) ≠ some t → ∀ u w w', R w w' → (F t).p u w → (F t).p u w')
    (hop : ∀ i ∈ L, ∀ o, ops[i]? = some o → ∀ a w, Known R s ops C L F a0 w0 i a w → Does (if i = s then R else Ext) P ops Q F o a w)
    (hend : ∀ a w, Ends R ops L F a0 w0 a w → wpAny P .any ops Q rest (marked l0 L) a w) : wpAny P .any ops Q (L.length + rest) l0 a0 w0 := by
  have hl0 : ∀ i ∈ L, l0.getD i false = false := by
    intro i hi
    simp only [fitB, Bool.and_eq_true, List.all_eq_true] at hfit
    have := hfit.1.1.2 i hi
    simp only [Bool.not_eq_true'] at this
    exact this.2
  have hl0s : l0.size = ops.size := by
    simp only [fitB, Bool.and_eq_true, beq_iff_eq] at hfit
    exact hfit.1.1.1
  have hleft : left l0 L = L.length := by
    unfold left
    rw [List.countP_eq_length]
    intro i hi
    rw [hl0 i hi]; rfl
  refine wpAny_flow_aux hRE hRT hs hC hfit hdeps hrg hnd rest hmono hop hend L.length l0 a0 w0 hleft ⟨hRE _ _ (Ext.refl _), fun _ => Ext.refl _, rfl, rfl, hl0s, ?_, fun _ _ => rfl, fun j hj hlj => ?_, fun _ _ => rfl⟩
  · intro j o ho hlj e he hb
    have hjlt : j < ops.size := (Array.getElem?_eq_some_iff.1 ho).1
    simp only [closedB, List.all_eq_true] at hcl
    have h1 := hcl j (List.mem_range.2 hjlt)
    rw [ho] at h1
    simp only [hlj, Bool.not_true, Bool.false_or, Option.map_some, Option.getD_some, Array.all_eq_true_iff_forall_mem, Bool.or_eq_true, Bool.not_eq_true'] at h1
    rcases h1 e he with h2 | h2
    · rw [hb] at h2; cases h2
    · exact h2
  · rw [hl0 j hj] at hlj; cases hlj
theorem wp_region_flow_tail {R : World → World → Prop} {s : Nat} (hRE : ∀ w w', Ext w w' → R w w') (hRT : ∀ {a b c}, R a b → R b c → R a c) (hs : s < ops.size) {id : Nat} {F : Tmp → SP} (C : Array Nat) (m : Nat) {a0 : Act} {w0 : World} (hm : P.follows .mixedOrders = true) (hmn : m ≤ ops.size) (hC : certB ops C = true) (ht : tailB ops C m = true)
    (hfit : fitB ops C (Array.replicate ops.size false) (List.range m) = true) (hdeps : depsB ops (Array.replicate ops.size false) (List.range m) = true) (hrg : rangeB ops a0.tmps.size = true)
    (hmono : ∀ t, (ops[s]?).bind (·.dst) ≠ some t → ∀ u w w', R w w' → (F t).p u w → (F t).p u w')
    (hop : ∀ i, i < m → ∀ o, ops[i]? = some o → ∀ a w, Known R s ops C (List.range m) F a0 { w0 with drawn := w0.drawn + 1 } i a w → Does (if i = s then R else Ext) P ops Q F o a w)
    (hend : ∀ a w, Ends R ops (List.range m) F a0 { w0 with drawn := w0.drawn + 1 } a w → wpList P ops Q (ops.toList.drop m) a w) : (Code.region id ops true).wp P Q a0 w0 := by
  refine wp_region_any hm ?_
  have h := wpAny_flow hRE hRT hs (P := P) (Q := Q) (ops := ops) (L := List.range m) (F := F) (C := C) (a0 := a0) (w0 := { w0 with drawn := w0.drawn + 1 }) (l0 := Array.replicate ops.size false) hC ?_ hfit hdeps hrg List.nodup_range (ops.size - m) hmono
    (fun i hi o ho a w hk => hop i (List.mem_range.1 hi) o ho a w hk) ?_
  · simpa [show m + (ops.size - m) = ops.size from by omega] using h
  · simp only [closedB, List.all_eq_true]
    intro j _
    have : (Array.replicate ops.size false).getD j false = false := by
      rw [Array.getD_eq_getD_getElem?, Array.getElem?_replicate]
      split <;> rfl
    rw [this]; rfl
  · intro a w he
    rw [marked_range _ _ hmn]
    exact wpAny_tail hC ht _ m (by omega) (Nat.le_refl _) a w (hend a w he)
theorem Ends.out {R : World → World → Prop} {L : List Nat} {F : Tmp → SP} {a0 : Act} {w0 : World} {a : Act} {w : World} (h : Ends R ops L F a0 w0 a w) (ds : List Nat) (hd : (L.filterMap fun j => (ops[j]?).bind (·.dst)) = ds) :
    ∃ us : Nat → Value, a = ⟨(fillL ds us 0 a0.tmps.toList).toArray, a0.defers⟩ ∧ ∀ t ∈ ds, (F t).p (us t) w := by
  refine ⟨fun t => a.tmps.getD t undef, ?_, fun t ht => ?_⟩
  · obtain ⟨tmps, defers⟩ := a
    have h1 := h.size
    have h2 := h.defers
    have h3 := h.old
    simp only at h1 h2 h3
    subst h2
    congr 1
    apply Array.ext
    · simp [fillL_length, h1]
    · intro j j1 j2
      have e : (fillL ds (fun t => tmps.getD t undef) 0 a0.tmps.toList)[j]? = some tmps[j] := by
        rw [fillL_get, Nat.zero_add]
        have hj : j < a0.tmps.size := by rw [← h1]; exact j1
        rw [Array.getElem?_toList, Array.getElem?_eq_getElem hj, Option.map_some]
        have e1 : tmps.getD j undef = tmps[j] := by rw [Array.getD_eq_getD_getElem?, Array.getElem?_eq_getElem j1, Option.getD_some]
        by_cases hc : ds.contains j = true
        · rw [if_pos hc, e1]
        · rw [if_neg hc]
          have h4 := h3 j (by
            rw [List.all_eq_true]
            intro q hq
            rw [bne_iff_ne]
            intro he
            apply hc
            rw [List.contains_iff_mem, ← hd]
            exact List.mem_filterMap.2 ⟨q, hq, he⟩)
          rw [e1, Array.getD_eq_getD_getElem?, Array.getElem?_eq_getElem hj, Option.getD_some] at h4
          rw [h4]
      rw [List.getElem_toArray]
      have := (List.getElem?_eq_some_iff.1 e).2
      exact this.symm
  · rw [← hd] at ht
    obtain ⟨j, hj, hjd⟩ := List.mem_filterMap.1 ht
    exact h.new j hj t hjd
def OpsDo (R : World → World → Prop) (s : Nat) (P : Program) (ops : Array Oper) (Q : Exit → Act → World → Prop) (C : Array Nat) (L : List Nat) (F : Tmp → SP) (a0 : Act) (w0 : World) : Nat → List Oper → Prop
  | _, [] => True
  | i, o :: l => (∀ a w, Known R s ops C L F a0 w0 i a w → Does (if i = s then R else Ext) P ops Q F o a w) ∧ OpsDo R s P ops Q C L F a0 w0 (i + 1) l
theorem OpsDo.at_ {R : World → World → Prop} {s : Nat} {C : Array Nat} {L : List Nat} {F : Tmp → SP} {a0 : Act} {w0 : World} : ∀ (l : List Oper) (k : Nat), OpsDo R s P ops Q C L F a0 w0 k l → ∀ i o, l[i]? = some o → ∀ a w, Known R s ops C L F a0 w0 (k + i) a w → Does (if k + i = s then R else Ext) P ops Q F o a w
  | [], _, _, i, o, h => by simp at h
  | x :: l, k, h, 0, o, ho => by
    intro a w hk
    obtain rfl : x = o := by simpa using ho
    exact h.1 a w hk
  | x :: l, k, h, i + 1, o, ho => by
    intro a w hk
    have := OpsDo.at_ l (k + 1) h.2 i o (by simpa using ho) a w (by rw [Nat.add_right_comm]; exact hk)
    rw [Nat.add_right_comm] at this; exact this
theorem wp_region_flow_l {R : World → World → Prop} (s : Nat) (hRE : ∀ w w', Ext w w' → R w w') (hRT : ∀ {a b c}, R a b → R b c → R a c) {id : Nat} (F : Tmp → SP) (m : Nat) {a0 : Act} {w0 : World} (hm : P.follows .mixedOrders = true) (n : Nat) (hn : a0.tmps.size = n) (hB : flowB ops m n = true)
    (hs : s < ops.size) (hmono : ∀ t, (ops[s]?).bind (·.dst) ≠ some t → ∀ u w w', R w w' → (F t).p u w → (F t).p u w')
    (hop : OpsDo R s P ops Q (Region.before ops) (List.range m) F a0 w0.drew 0 (ops.toList.take m))
    (hend : ∀ a w, Ends R ops (List.range m) F a0 w0.drew a w → wpList P ops Q (ops.toList.drop m) a w) : (Code.region id ops true).wp P Q a0 w0 := by
  simp only [flowB, Bool.and_eq_true, decide_eq_true_eq] at hB
  obtain ⟨⟨⟨⟨⟨h1, h2⟩, h3⟩, h4⟩, h5⟩, h6⟩ := hB
  exact wp_region_flow_tail hRE hRT hs (Region.before ops) m hm h1 h2 h3 h4 h5 (by rw [hn]; exact h6) hmono (fun i hi o ho a w hk => by have := OpsDo.at_ (ops.toList.take m) 0 hop i o (by rw [List.getElem?_take]; simpa [hi] using ho) a w (by rw [Nat.zero_add]; exact hk); rw [Nat.zero_add] at this; exact this) hend
theorem does_intro {Rl : World → World → Prop} {F : Tmp → SP} {o : Oper} {a : Act} {w : World} (hg : Region.wanted o (yielded ops a.tmps) = true)
    (h : ∀ K : Act → World → Prop, (∀ v w', Rl w w' → (∀ d, o.dst = some d → (F d).p v w') → K (a.put o.dst v) w') → o.wp P a w K Q) : Does Rl P ops Q F o a w := by
  unfold Does
  rw [if_pos hg]
  exact h _ fun v w' h1 h2 => ⟨v, rfl, h1, h2⟩
end FlowS
end Go.Proofs.Ytgkgedjmnbjalaa
namespace Go.Proofs.Ytgkgedjmnbjalaa
open Go.RowKit
theorem heap_alloc (w : World) (o : Obj) (k : Nat) : (w.alloc o).heap[k]? = if k = w.heap.size then some o else w.heap[k]? := by
  show (w.heap.push o)[k]? = _
  rw [Array.getElem?_push]
theorem heap_lt {w : World} {b : Nat} {o : Obj} (h : w.heap[b]? = some o) : b < w.heap.size := by
  rcases Nat.lt_or_ge b w.heap.size with h' | h'
  · exact h'
  · simp [Array.getElem?_eq_none h'] at h
def Blk (w : World) (g : Nat) (cs : List Value) (t : TypeId) : Prop := w.heap[g]? = some (.cells cs.toArray t (0, 0))
theorem Blk.cell {w : World} {g : Nat} {cs : List Value} {t : TypeId} (h : Blk w g cs t) (k : Nat) : w.cell? ⟨g, k, none⟩ = cs[k]? := by
  rw [cell_of_row w g k _ _ _ h]; simp
theorem Blk.free {w : World} {g : Nat} {cs : List Value} {t : TypeId} (h : Blk w g cs t) (k : Nat) : w.frozen? ⟨g, k, none⟩ = false := frozen_of_row w g k _ t h
theorem Blk.lt {w : World} {g : Nat} {cs : List Value} {t : TypeId} (h : Blk w g cs t) : g < w.heap.size := heap_lt h
theorem Blk.ext {w w' : World} (hx : Ext w w') {g : Nat} {cs : List Value} {t : TypeId} (h : Blk w g cs t) : Blk w' g cs t := Ext.heap hx h
theorem Blk.inj {w : World} {g : Nat} {cs ds : List Value} {t t' : TypeId} (h : Blk w g cs t) (k : Blk w g ds t') : cs = ds := by
  unfold Blk at h k
  rw [h] at k
  simp only [Option.some.injEq, Obj.cells.injEq] at k
  exact List.toArray_inj k.1
theorem Blk.new (w : World) (cs : Array Value) (t : TypeId) : Blk (w.alloc (.cells cs t)) w.heap.size cs.toList t := by
  unfold Blk
  rw [heap_alloc, if_pos rfl]
theorem Blk.alloc {w : World} {g : Nat} {cs : List Value} {t : TypeId} (h : Blk w g cs t) (o : Obj) : Blk (w.alloc o) g cs t := by
  unfold Blk
  rw [heap_alloc, if_neg (Nat.ne_of_lt h.lt)]
  exact h
theorem Blk.new2 (w : World) (A : Obj) (cs : Array Value) (t : TypeId) : Blk ((w.alloc A).alloc (.cells cs t)) (w.heap.size + 1) cs.toList t := by
  have := Blk.new (w.alloc A) cs t
  simpa using this
structure Upd (w w' : World) (g : Nat) : Prop where
  os : w'.os = w.os
  tape : w'.tape = w.tape
  output : w'.output = w.output
  size : w'.heap.size = w.heap.size
  block : ∀ k, k ≠ g → w'.heap[k]? = w.heap[k]?
theorem Upd.below {w w' : World} {g B : Nat} (h : Upd w w' g) (hB : B ≤ g) : Below B w w' := ⟨h.os, h.tape, h.output, Nat.le_of_eq h.size.symm, fun k hk => h.block k (by omega)⟩
theorem Upd.blk {w w' : World} {g k : Nat} (h : Upd w w' g) (hk : k ≠ g) {cs : List Value} {t : TypeId} (hb : Blk w k cs t) : Blk w' k cs t := (h.block k hk).trans hb
theorem Upd.trans {a b c : World} {g : Nat} (h : Upd a b g) (k : Upd b c g) : Upd a c g :=
  ⟨k.os.trans h.os, k.tape.trans h.tape, k.output.trans h.output, k.size.trans h.size, fun i hi => (k.block i hi).trans (h.block i hi)⟩
theorem Upd.setRow (w : World) (g : Nat) (cs : Array Value) : Upd w (w.setRow g cs) g := ⟨rfl, rfl, rfl, by simp, fun k hk => setRow_other w g k cs hk⟩
theorem Upd.setCell (w : World) (a : Addr) (v : Value) : Upd w (w.setCell a v) a.block := ⟨rfl, rfl, rfl, by simp, fun k hk => heap_setCell_other w a k v hk⟩
theorem Blk.setRow {w : World} {g : Nat} {cs : List Value} {t : TypeId} (h : Blk w g cs t) (ds : Array Value) : Blk (w.setRow g ds) g ds.toList t := setRow_heap w g _ ds t _ h
theorem Blk.setCell {w : World} {g : Nat} {cs : List Value} {t : TypeId} (h : Blk w g cs t) (i : Nat) (v : Value) : Blk (w.setCell ⟨g, i, none⟩ v) g (cs.set i v) t := by
  unfold Blk
  rw [heap_setCell_same w g i _ t v h]
  simp
section
variable {P : Program} {ops : Array Oper} {rest : List Oper} {a : Act} {w : World} {Q : Exit → Act → World → Prop}
structure Stop (p : Prop) : Prop where mk :: (out : p)
theorem stop_at (op : Op) {d : Option Tmp} {p1 : TypeId} {p2 : String} {p3 : Array Edge} {gd : Option (Nat × Bool)} (h : Stop (wpList P ops Q (⟨d, op, p1, p2, p3, gd⟩ :: rest) a w)) : wpList P ops Q (⟨d, op, p1, p2, p3, gd⟩ :: rest) a w := h.out
end
theorem str_eq (a b : ByteArray) : (a.toList == b.toList) = decide (a = b) := by
  rw [← beq_toListBytes]
  show (a.data == b.data) = _
  by_cases h : a = b
  · subst h; simp
  · have h' : a.data ≠ b.data := fun e => h (by cases a; cases b; simp_all)
    simp [h, h']
theorem ret_int {k : IntKind} {a b : Int} (h : a = b) : Ending.returned (.int k a) = .returned (.int k b) := by rw [h]
theorem size54 : (Try.prog.info? 54).map (·.size) = some 6 := by kernel_rfl
theorem size65 : (Try.prog.info? 65).map (·.size) = some 2 := by kernel_rfl
def SlT (P : Program) (T E : TypeId) (sz by_ : Nat) : Prop := P.underlying T = some (.slice E) ∧ ∃ i z, P.info? E = some i ∧ i.zero = some z ∧ i.size = sz ∧ i.bytes = by_ ∧ z.cells.size = sz
theorem slT_mk {P : Program} {T E : TypeId} {sz by_ : Nat} (ht : P.underlying T = some (.slice E)) (h : (P.info? E).map (fun i => (i.zero.map (·.cells.size), i.size, i.bytes)) = some (some sz, sz, by_)) : SlT P T E sz by_ := by
  refine ⟨ht, ?_⟩
  cases hi : P.info? E with
  | none => simp [hi] at h
  | some i =>
    simp only [hi, Option.map_some, Option.some.injEq, Prod.mk.injEq, Option.map_eq_some_iff] at h
    obtain ⟨⟨z, h1, h2⟩, h3, h4⟩ := h
    exact ⟨i, z, rfl, h1, h3, h4, h2⟩
theorem sl52 : SlT Try.prog 52 54 6 88 := slT_mk Try.underlying52 (by kernel_rfl)
theorem sl57 : SlT Try.prog 57 68 14 208 := slT_mk Try.underlying57 (by kernel_rfl)
theorem sl59 : SlT Try.prog 59 65 2 32 := slT_mk Try.underlying59 (by kernel_rfl)
theorem own_form {w : World} {base : Nat} {e : TypeId} {sz n : Nat} {v : Value} {xs : List Value} (h : w.ownsRow base e sz v n xs) (hn : 0 < n) :
    ∃ g cap sp, v = .slice (some ⟨g, 0, none⟩) n cap ∧ base ≤ g ∧ Blk w g (xs ++ sp) e ∧ n ≤ cap ∧ cap ≤ maxLen ∧ (xs ++ sp).length = cap * sz := by
  rcases h.2 with ⟨_, h0⟩ | ⟨g, cap, cur, hv, hb, hg, hc, hm, hs, ht⟩
  · omega
  · refine ⟨g, cap, cur.toList.drop (n * sz), hv, hb, ?_, hc, hm, ?_⟩
    · unfold Blk
      rw [← ht, List.take_append_drop, Array.toArray_toList]
      exact hg
    · rw [← ht, List.take_append_drop, Array.length_toList]
      exact hs
theorem own_intro {w : World} {base : Nat} {e : TypeId} {sz n cap g : Nat} {xs sp : List Value} (hb : base ≤ g) (hg : Blk w g (xs ++ sp) e) (hn : n ≤ cap) (hm : cap ≤ maxLen) (hs : (xs ++ sp).length = cap * sz) (hx : xs.length = n * sz) :
    w.ownsRow base e sz (.slice (some ⟨g, 0, none⟩) n cap) n xs :=
  ⟨hx, .inr ⟨g, cap, (xs ++ sp).toArray, rfl, hb, hg, hn, hm, by simpa using hs, by simp [← hx]⟩⟩
theorem own_ext {w w' : World} (hx : Ext w w') {base : Nat} {e : TypeId} {sz n : Nat} {v : Value} {xs : List Value} (h : w.ownsRow base e sz v n xs) : w'.ownsRow base e sz v n xs :=
  h.kept (row := none) ⟨hx.os, hx.tape, hx.output, hx.size, fun k hk _ => hx.block k hk⟩ (by cases v.ownBlock <;> simp)
theorem own_new {w : World} {base : Nat} {e : TypeId} {sz n : Nat} {cs : Array Value} (hb : base ≤ w.heap.size) (hn : n ≤ maxLen) (hs : cs.size = n * sz) : (w.alloc (.cells cs e)).ownsRow base e sz (.slice (some ⟨w.heap.size, 0, none⟩) n n) n cs.toList := by
  refine own_intro (sp := []) hb (by rw [List.append_nil]; exact Blk.new _ _ _) (Nat.le_refl _) hn ?_ ?_ <;> simpa using hs
theorem own_below {w w' : World} {B : Nat} {g : Nat} (h : Below B w w') {w2 : World} (hg : w'.grownBy w2 (some g)) (hB : B ≤ g) (hw : B ≤ w'.heap.size) : Below B w w2 :=
  h.grown hg hw (fun k hk => by injection hk with hk; omega)
theorem addr_add (g o j : Nat) : (⟨g, o, none⟩ : Addr).add j = ⟨g, o + j, none⟩ := by
  unfold Addr.add
  split
  · subst_vars; rfl
  · rfl
theorem wpl_append {P : Program} {ops : Array Oper} {rest : List Oper} {a : Act} {w : World} {Q : Exit → Act → World → Prop} {T E : TypeId} {sz by_ : Nat} (hT : SlT P T E sz by_) (hsz : 0 < sz) (hby : 0 < by_)
    (s x : Operand) (d : Tmp) (p1 : TypeId) (p2 : String) (p3 : Array Edge) (base : Nat)
    (v : Value) (n : Nat) (xs : List Value) (hs : a.eval s = v) (hown : w.ownsRow base E sz v n xs)
    (D off m c : Nat) (news : List Value) (hx : a.eval x = .slice (some ⟨D, off, none⟩) m c) (hl : news.length = m * sz) (hnews : ∀ j u, news[j]? = some u → w.cell? ⟨D, off + j, none⟩ = some u)
    (h1 : news.all (·.oneCell') = true) (hbytes : (n + m) * by_ ≤ 140737488355328) (hbase : base ≤ w.heap.size)
    (h : ∀ v' w', w'.ownsRow base E sz v' (n + m) (xs ++ news) → w.grownBy w' v.ownBlock → (v'.ownBlock = v.ownBlock ∨ v'.ownBlock = some w.heap.size) → wpList P ops Q rest (a.put (some d) v') w') :
    wpList P ops Q (⟨some d, .call { callee := .builtin .append, args := #[s, x], argTypes := #[T, T] }, p1, p2, p3, none⟩ :: rest) a w := by
  obtain ⟨ht, i, z, hi, hz, hz1, hz2, hz3⟩ := hT
  have hle : n + m ≤ 140737488355328 := Nat.le_trans (Nat.le_mul_of_pos_right _ hby) hbytes
  exact wpList_append_own_at w rfl s x T rfl base E i z sz by_ ht hi hz hz1 hz2 hz3 hsz v n xs hs hown ⟨D, off, none⟩ m c news hx hl (fun j u hj => by rw [addr_add]; exact hnews j u hj)
    (by rw [List.all_eq_true] at h1; exact h1) (by simp only [maxLen]; omega) hbytes hbase fun v' w' a1 a2 _ a4 => h v' w' a1 a2 a4
theorem ret_box {P : Program} {fn : Func} {R : Ending → World → Prop} {a : Act} {w : World} {p : Tmp} {ty : TypeId} (h : fn.results = #[.cell p ty]) (g : Nat) (cs : List Value) (t : TypeId) (d : TypeDesc)
    (hg : Blk w g cs t) (hp : a.tmps.getD p undef = .pointer (some ⟨g, 0, none⟩)) (hd' : a.defers = [])
    (hu : P.underlying ty = some d) (hd : (match d with | .struct _ | .array _ _ => true | _ => false) = true) (hi : (P.info? ty).map (·.size) = some cs.length)
    (hR : R (.returned (.agg cs.toArray)) w) : bodyPost P fn R .ret a w :=
  ⟨hd', _, results_cell_row h a.tmps w g t cs.toArray (0, 0) d hp hg hu hd (by simpa using hi), hR⟩
theorem run_load_box {P : Program} {w : World} {ty : TypeId} {d : TypeDesc} {g : Nat} {cs : List Value} {t : TypeId} (hg : Blk w g cs t)
    (hu : P.underlying ty = some d) (hd : (match d with | .struct _ | .array _ _ => true | _ => false) = true) (hi : (P.info? ty).map (·.size) = some cs.length) :
    (loadVar ty ⟨g, 0, none⟩).run P w = .ok (.agg cs.toArray) w := run_loadVar_row w g t ty cs.toArray (0, 0) d hg hu hd (by simpa using hi)
theorem ret_box2 {P : Program} {fn : Func} {R : Ending → World → Prop} {a : Act} {w : World} {p u : Tmp} {ty : TypeId} (h : fn.results = #[.cell p ty, .tmp u]) (g : Nat) (cs : List Value) (t : TypeId) (d : TypeDesc)
    (hg : Blk w g cs t) (hp : a.tmps.getD p undef = .pointer (some ⟨g, 0, none⟩)) (hd' : a.defers = [])
    (hu : P.underlying ty = some d) (hd : (match d with | .struct _ | .array _ _ => true | _ => false) = true) (hi : (P.info? ty).map (·.size) = some cs.length)
    (hR : R (.returned (.tuple #[.agg cs.toArray, a.tmps.getD u undef])) w) : bodyPost P fn R .ret a w := by
  refine ⟨hd', _, ?_, hR⟩
  rw [results_cell_tmp h, hp]
  simp [asAddr, run_load_box hg hu hd hi]
end Go.Proofs.Ytgkgedjmnbjalaa
set_option linter.unusedSimpArgs false
namespace Go.Proofs.Ytgkgedjmnbjalaa
open Go.RowKit Go.Sort
theorem ext_regrown (w : World) (d : Nat) (os : Array Obj) : Ext w (grow (redrawn w d) os) := below_regrown w d os
def Ret (R : World → Value → Prop) (e : Ending) (w' : World) : Prop := ∃ v, e = .returned v ∧ R w' v
theorem cell_some {w : World} {b : Nat} {cs : List Value} {t : TypeId} (h : Blk w b cs t) {i : Nat} (hi : i < cs.length) : ∃ u, w.cell? ⟨b, i, none⟩ = some u := ⟨_, by rw [h.cell]; exact List.getElem?_eq_getElem hi⟩
theorem wanted_yes {ops : Array Oper} {o : Oper} {a : Act} {j : Nat} {t : Tmp} {b : Bool} (hg : o.guard = some (j, b)) (hd : (ops[j]?).bind (·.dst) = some t) (he : a.tmps[t]?.getD undef = .bool b) : Region.wanted o (yielded ops a.tmps) = true := by
  have h : a.tmps[t]? = some (.bool b) := by
    cases h : a.tmps[t]? with
    | none => rw [h] at he; simp [undef] at he
    | some v => rw [h] at he; simpa using he
  simp [Region.wanted, hg, yielded, hd, h]
theorem wanted_no {ops : Array Oper} {o : Oper} {a : Act} {j : Nat} {t : Tmp} {b c : Bool} (hg : o.guard = some (j, b)) (hd : (ops[j]?).bind (·.dst) = some t) (he : a.tmps[t]?.getD undef = .bool c) (hbc : (c == b) = false := by rfl) : Region.wanted o (yielded ops a.tmps) = false := by
  have h : a.tmps[t]? = some (.bool c) := by
    cases h : a.tmps[t]? with
    | none => rw [h] at he; simp [undef] at he
    | some v => rw [h] at he; simpa using he
  simp only [Region.wanted, hg, yielded, hd, h, Option.bind_some]
  cases b <;> cases c <;> first | rfl | simp_all
theorem wanted_off {ops : Array Oper} {o : Oper} {a : Act} {j : Nat} {t : Tmp} {b : Bool} (hg : o.guard = some (j, b)) (hd : (ops[j]?).bind (·.dst) = some t) (he : a.tmps[t]?.getD undef = undef) : Region.wanted o (yielded ops a.tmps) = false := by
  have h : a.tmps[t]? ≠ some (.bool b) := by
    intro h
    rw [h] at he
    simp [undef] at he
  simp only [Region.wanted, hg, yielded, hd, Option.bind_some]
  cases h2 : a.tmps[t]? with
  | none => rfl
  | some v => 
    rw [h2] at he h
    simp only [Option.getD_some] at he
    subst he
    rfl
theorem flatten_get {n : Nat} : ∀ (cs : List (List Value)), (∀ c ∈ cs, c.length = n) → ∀ (i : Nat) (c : List Value), cs[i]? = some c → ∀ (j : Nat) (v : Value), c[j]? = some v → cs.flatten[i * n + j]? = some v
  | [], _, i, c, h, _, _, _ => by simp at h
  | d :: cs, hl, 0, c, h, j, v, hv => by
    simp at h
    subst h
    rw [List.flatten_cons, Nat.zero_mul, Nat.zero_add, List.getElem?_append_left (List.getElem?_eq_some_iff.1 hv).1]
    exact hv
  | d :: cs, hl, i + 1, c, h, j, v, hv => by
    have h0 := hl d (by simp)
    rw [List.flatten_cons, List.getElem?_append_right (by rw [h0, Nat.add_mul]; omega), h0]
    have := flatten_get cs (fun c hc => hl c (by simp [hc])) i c (by simpa using h) j v hv
    rw [show (i + 1) * n + j - n = i * n + j by rw [Nat.add_mul]; omega]
    exact this
theorem flatten_len {n : Nat} : ∀ (cs : List (List Value)), (∀ c ∈ cs, c.length = n) → cs.flatten.length = cs.length * n
  | [], _ => by simp
  | d :: cs, hl => by
    rw [List.flatten_cons, List.length_append, flatten_len cs (fun c hc => hl c (by simp [hc])), hl d (by simp), List.length_cons, Nat.add_mul]
    omega
inductive T where
  | mk (name key : ByteArray) (kind num : Int) (text : ByteArray) (kids : List T)
def T.name : T → ByteArray | .mk n .. => n
def T.key : T → ByteArray | .mk _ k .. => k
def T.kind : T → Int | .mk _ _ k .. => k
def T.num : T → Int | .mk _ _ _ n .. => n
def T.text : T → ByteArray | .mk _ _ _ _ t _ => t
def T.kids : T → List T | .mk _ _ _ _ _ l => l
def zeroT : T := .mk ⟨#[]⟩ ⟨#[]⟩ 0 0 ⟨#[]⟩ []
mutual
/-- How many nodes. -/
def T.size : T → Nat
  | .mk _ _ _ _ _ kids => 1 + sizeL kids
def sizeL : List T → Nat
  | [] => 0
  | t :: l => t.size + sizeL l
end
mutual
/-- How deep. -/
def T.deep : T → Nat
  | .mk _ _ _ _ _ kids => 1 + deepL kids
def deepL : List T → Nat
  | [] => 0
  | t :: l => max t.deep (deepL l)
end
theorem T.size_eq (t : T) : t.size = 1 + sizeL t.kids := by cases t; rfl
theorem T.deep_eq (t : T) : t.deep = 1 + deepL t.kids := by cases t; rfl
theorem size_pos (t : T) : 0 < t.size := by rw [t.size_eq]; omega
theorem sizeL_append : ∀ (l m : List T), sizeL (l ++ m) = sizeL l + sizeL m
  | [], m => by simp [sizeL]
  | t :: l, m => by simp [sizeL, sizeL_append l m]; omega
theorem sizeL_len : ∀ (l : List T), l.length ≤ sizeL l
  | [] => by simp
  | t :: l => by have := sizeL_len l; have := size_pos t; simp [sizeL]; omega
theorem sizeL_mem : ∀ {l : List T} {i : Nat} {t : T}, l[i]? = some t → t.size ≤ sizeL l
  | [], _, _, h => by simp at h
  | x :: l, 0, t, h => by simp at h; subst h; simp [sizeL]
  | x :: l, i + 1, t, h => by have := sizeL_mem (l := l) (i := i) (t := t) (by simpa using h); simp [sizeL]; omega
theorem deepL_mem : ∀ {l : List T} {i : Nat} {t : T}, l[i]? = some t → t.deep ≤ deepL l
  | [], _, _, h => by simp at h
  | x :: l, 0, t, h => by simp at h; subst h; simp [deepL]; omega
  | x :: l, i + 1, t, h => by have := deepL_mem (l := l) (i := i) (t := t) (by simpa using h); simp [deepL]; omega
mutual
theorem T.deep_le : ∀ t : T, t.deep ≤ t.size
  | .mk _ _ _ _ _ kids => by have := deepL_le kids; simp [T.deep, T.size]; omega
theorem deepL_le : ∀ l : List T, deepL l ≤ sizeL l
  | [] => by simp [deepL]
  | t :: l => by have := T.deep_le t; have := deepL_le l; simp [deepL, sizeL]; omega
end
theorem kid_size {t k : T} {i : Nat} (h : t.kids[i]? = some k) : k.size < t.size := by have := sizeL_mem h; rw [t.size_eq]; omega
theorem kid_deep {t k : T} {i : Nat} (h : t.kids[i]? = some k) : k.deep < t.deep := by have := deepL_mem h; rw [t.deep_eq]; omega
def cT (name key : ByteArray) (kind num : Int) (text : ByteArray) (K : Option Addr) (kl kc : Nat) : List Value := [.string name, .string key, .int .i64 kind, .int .u64 num, .string text, .slice K kl kc]
inductive RT (S : Nat → Prop) (w : World) : T → List Value → Prop where
  | mk (name key : ByteArray) (kind num : Int) (text : ByteArray) (kids : List T) (K : Option Addr) (kc : Nat) (css : List (List Value))
    (hl : css.length = kids.length) (h6 : ∀ c ∈ css, c.length = 6)
    (hK : kids ≠ [] → ∃ b off, K = some ⟨b, off, none⟩ ∧ S b ∧ ∀ j v, css.flatten[j]? = some v → w.cell? ⟨b, off + j, none⟩ = some v)
    (hr : ∀ (i : Nat) k c, kids[i]? = some k → css[i]? = some c → RT S w k c)
    (hb : kids.length ≤ kc ∧ kids.length ≤ 1048576 ∧ (K = none → kc = 0)) :
    RT S w (.mk name key kind num text kids) (cT name key kind num text K kids.length kc)
structure RRow (S : Nat → Prop) (w : World) (K : Option Addr) (kids : List T) (kc : Nat) : Prop where
  cap : kids.length ≤ kc
  len : kids.length ≤ 1048576
  nul : K = none → kc = 0
  kid : ∀ (i : Nat) k, kids[i]? = some k → ∃ b off c, K = some ⟨b, off, none⟩ ∧ S b ∧ RT S w k c ∧ ∀ j v, c[j]? = some v → w.cell? ⟨b, off + i * 6 + j, none⟩ = some v
theorem RT.row {S : Nat → Prop} {w : World} {t : T} {c : List Value} (h : RT S w t c) : ∃ K kc, c = cT t.name t.key t.kind t.num t.text K t.kids.length kc ∧ RRow S w K t.kids kc := by
  cases h with
  | mk name key kind num text kids K kc css hl h6 hK hr hb =>
    refine ⟨K, kc, rfl, hb.1, hb.2.1, hb.2.2, fun i k hi => ?_⟩
    have hi' : kids[i]? = some k := hi
    have hne : kids ≠ [] := by rintro rfl; simp at hi'
    obtain ⟨b, off, h1, h2, h3⟩ := hK hne
    have hlt : i < css.length := by rw [hl]; exact (List.getElem?_eq_some_iff.1 hi').1
    have hci := List.getElem?_eq_getElem hlt
    refine ⟨b, off, _, h1, h2, hr i k _ hi' hci, fun j v hv => ?_⟩
    rw [Nat.add_assoc]
    exact h3 _ _ (flatten_get css h6 i _ hci j v hv)
theorem RT.ext {S : Nat → Prop} {w w' : World} (hx : Ext w w') {t : T} {c : List Value} (h : RT S w t c) : RT S w' t c := by
  induction h with
  | mk name key kind num text kids K kc css hl h6 hK hr hb ih =>
    refine .mk name key kind num text kids K kc css hl h6 (fun hn => ?_) ih hb
    obtain ⟨b, off, h1, h2, h3⟩ := hK hn
    exact ⟨b, off, h1, h2, fun j v hv => Ext.cell hx (h3 j v hv)⟩
theorem RT.keep {S S' : Nat → Prop} {w w' : World} (hk : ∀ b off v, S b → w.cell? ⟨b, off, none⟩ = some v → S' b ∧ w'.cell? ⟨b, off, none⟩ = some v) {t : T} {c : List Value} (h : RT S w t c) : RT S' w' t c := by
  induction h with
  | mk name key kind num text kids K kc css hl h6 hK hr hb ih =>
    refine .mk name key kind num text kids K kc css hl h6 (fun hn => ?_) ih hb
    obtain ⟨b, off, h1, h2, h3⟩ := hK hn
    refine ⟨b, off, h1, ?_, fun j v hv => (hk b _ v h2 (h3 j v hv)).2⟩
    cases css with
    | nil => simp at hl; exact absurd (List.eq_nil_of_length_eq_zero hl.symm) hn
    | cons d css =>
      have hd := h6 d (by simp)
      cases d with
      | nil => simp at hd
      | cons v d => exact (hk b _ v h2 (h3 0 v (by simp))).1
theorem RT.mono {S S' : Nat → Prop} {w : World} (hs : ∀ b, b < w.heap.size → S b → S' b) {t : T} {c : List Value} (h : RT S w t c) : RT S' w t c :=
  h.keep fun b _ _ hb hc => ⟨hs b (World.block_lt_of_cell? w _ hc) hb, hc⟩
theorem RRow.ext {S : Nat → Prop} {w w' : World} (hx : Ext w w') {K : Option Addr} {l : List T} {kc : Nat} (h : RRow S w K l kc) : RRow S w' K l kc :=
  ⟨h.cap, h.len, h.nul, fun i k hi => by
    obtain ⟨b, off, c, h1, h2, h3, h4⟩ := h.kid i k hi
    exact ⟨b, off, c, h1, h2, h3.ext hx, fun j v hv => Ext.cell hx (h4 j v hv)⟩⟩
theorem RT.len {S : Nat → Prop} {w : World} {t : T} {c : List Value} (h : RT S w t c) : c.length = 6 := by cases h; rfl
theorem RRow.keep {S S' : Nat → Prop} {w w' : World} (hk : ∀ b off v, S b → w.cell? ⟨b, off, none⟩ = some v → S' b ∧ w'.cell? ⟨b, off, none⟩ = some v) {K : Option Addr} {l : List T} {kc : Nat} (h : RRow S w K l kc) : RRow S' w' K l kc :=
  ⟨h.cap, h.len, h.nul, fun i k hi => by
    obtain ⟨b, off, c, h1, h2, h3, h4⟩ := h.kid i k hi
    have h6 := h3.len
    refine ⟨b, off, c, h1, ?_, h3.keep hk, fun j v hv => (hk b _ v h2 (h4 j v hv)).2⟩
    cases c with
    | nil => simp at h6
    | cons v c => exact (hk b _ v h2 (h4 0 v (by simp))).1⟩
theorem RRow.tail {S : Nat → Prop} {w : World} {b off : Nat} {x : T} {l : List T} {kc : Nat} (h : RRow S w (some ⟨b, off, none⟩) (x :: l) kc) : RRow S w (some ⟨b, off + 6, none⟩) l (kc - 1) := by
  refine ⟨by have := h.cap; simp at this; omega, by have := h.len; simp at this; omega, fun h => (by cases h), fun i k hi => ?_⟩
  obtain ⟨b', off', c, h1, h2, h3, h4⟩ := h.kid (i + 1) k (by simpa using hi)
  simp only [Option.some.injEq, Addr.mk.injEq, and_true] at h1
  obtain ⟨rfl, rfl⟩ := h1
  refine ⟨b, off + 6, c, rfl, h2, h3, fun j v hv => ?_⟩
  have := h4 j v hv
  rw [show off + 6 + i * 6 + j = off + (i + 1) * 6 + j by omega]
  exact this
theorem RRow.nil (S : Nat → Prop) (w : World) (K : Option Addr) (kc : Nat) (h : K = none → kc = 0) : RRow S w K [] kc := ⟨by simp, by simp, h, fun i k hi => by simp at hi⟩
theorem RT.of_row {S : Nat → Prop} {w : World} {t : T} {K : Option Addr} {kc : Nat} (h : RRow S w K t.kids kc) : RT S w t (cT t.name t.key t.kind t.num t.text K t.kids.length kc) := by
  obtain ⟨name, key, kind, num, text, kids⟩ := t
  have h' : RRow S w K kids kc := h
  clear h
  by_cases hn : kids = []
  · subst hn
    exact .mk name key kind num text [] K kc [] rfl (by simp) (fun h => absurd rfl h) (fun i k c h => by simp at h) ⟨h'.cap, h'.len, h'.nul⟩
  · obtain ⟨x, l, rfl⟩ := List.exists_cons_of_ne_nil hn
    obtain ⟨b, off, _, h1, h2, _, _⟩ := h'.kid 0 x rfl
    subst h1
    have key2 : ∀ i k, (x :: l)[i]? = some k → ∃ c, RT S w k c ∧ ∀ j v, c[j]? = some v → w.cell? ⟨b, off + i * 6 + j, none⟩ = some v := by
      intro i k hi
      obtain ⟨b', off', c, e, _, h3, h4⟩ := h'.kid i k hi
      simp only [Option.some.injEq, Addr.mk.injEq, and_true] at e
      obtain ⟨rfl, rfl⟩ := e
      exact ⟨c, h3, h4⟩
    have hex : ∀ (m : List T) (s : Nat), (∀ i k, m[i]? = some k → ∃ c, RT S w k c ∧ ∀ j v, c[j]? = some v → w.cell? ⟨b, off + (s + i) * 6 + j, none⟩ = some v) →
        ∃ css : List (List Value), css.length = m.length ∧ (∀ c ∈ css, c.length = 6) ∧ (∀ (i : Nat) k c, m[i]? = some k → css[i]? = some c → RT S w k c) ∧ ∀ j v, css.flatten[j]? = some v → w.cell? ⟨b, off + s * 6 + j, none⟩ = some v := by
      intro m
      induction m with
      | nil => intro s _; exact ⟨[], rfl, by simp, by simp, by simp⟩
      | cons y m ih =>
        intro s hm
        obtain ⟨c, hc1, hc2⟩ := hm 0 y rfl
        obtain ⟨css, e1, e2, e3, e4⟩ := ih (s + 1) (fun i k hi => by
          obtain ⟨c, h1, h2⟩ := hm (i + 1) k (by simpa using hi)
          exact ⟨c, h1, fun j v hv => by have := h2 j v hv; rw [show s + 1 + i = s + (i + 1) by omega]; exact this⟩)
        refine ⟨c :: css, by simp [e1], fun d hd => ?_, fun i k d hi hd => ?_, fun j v hv => ?_⟩
        · rcases List.mem_cons.1 hd with rfl | hd
          · exact hc1.len
          · exact e2 d hd
        · cases i with
          | zero => simp at hi hd; subst hi hd; exact hc1
          | succ i => exact e3 i k d (by simpa using hi) (by simpa using hd)
        · rw [List.flatten_cons] at hv
          by_cases hj : j < c.length
          · rw [List.getElem?_append_left hj] at hv
            have := hc2 j v hv
            rwa [Nat.add_zero] at this
          · rw [List.getElem?_append_right (by omega), hc1.len] at hv
            have := e4 _ v hv
            have h6 := hc1.len
            rw [show off + (s + 1) * 6 + (j - 6) = off + s * 6 + j by omega] at this
            exact this
    obtain ⟨css, e1, e2, e3, e4⟩ := hex (x :: l) 0 (fun i k hi => by rw [Nat.zero_add]; exact key2 i k hi)
    exact .mk name key kind num text (x :: l) (some ⟨b, off, none⟩) kc css e1 e2 (fun _ => ⟨b, off, rfl, h2, fun j v hv => by have := e4 j v hv; rwa [Nat.zero_mul, Nat.add_zero] at this⟩) e3 ⟨h'.cap, h'.len, h'.nul⟩
theorem RRow.head {S : Nat → Prop} {w : World} {K : Option Addr} {x : T} {l : List T} {kc : Nat} (h : RRow S w K (x :: l) kc) : ∃ b off c, K = some ⟨b, off, none⟩ ∧ S b ∧ RT S w x c ∧ ∀ j v, c[j]? = some v → w.cell? ⟨b, off + j, none⟩ = some v := by
  obtain ⟨b, off, c, h1, h2, h3, h4⟩ := h.kid 0 x rfl
  refine ⟨b, off, c, h1, h2, h3, fun j v hv => ?_⟩
  have := h4 j v hv
  rwa [Nat.zero_mul, Nat.add_zero] at this
end Go.Proofs.Ytgkgedjmnbjalaa
set_option linter.unusedSimpArgs false
namespace Go.Proofs.Ytgkgedjmnbjalaa
open Go.RowKit Go.ChangeShapes Go.WideShapes
theorem cells54 : Try.prog.cellsOf 54 = 6 := by kernel_rfl
theorem cells51 : Try.prog.cellsOf 51 = 3 := by kernel_rfl
theorem cells52 : Try.prog.cellsOf 52 = 1 := by kernel_rfl
theorem cells9 : Try.prog.cellsOf 9 = 1 := by kernel_rfl
theorem cells3 : Try.prog.cellsOf 3 = 1 := by kernel_rfl
theorem cells24 : Try.prog.cellsOf 24 = 1 := by kernel_rfl
theorem list6 {cs : List Value} (h : cs.length = 6) : ∃ a b c d e f, cs = [a, b, c, d, e, f] := by
  match cs, h with
  | [a, b, c, d, e, f], _ => exact ⟨a, b, c, d, e, f, rfl⟩
variable {H : Type} {enc : TypeId × Value → H} {W : World} {base : Nat} {spare : Nat → Bool} {held : Bool}
theorem node_open : ∀ (fuel : Nat) (cs : List Value) (x : DataW H × List MemPlace), DataW.trod enc Try.prog W base spare held fuel 54 cs = some x → Rows.uptoBulk x.1 ≤ 1048576 →
    ∃ t : T, RT (fun _ => True) W t cs ∧ t.size ≤ Rows.uptoBulk x.1 := by
  intro fuel
  induction fuel using Nat.strongRecOn with
  | _ fuel ih =>
    intro cs x h hx
    obtain ⟨xs, n, rfl, rfl, hl, hlen, hf⟩ := DataW.trod_struct Try.underlying54 h
    rw [cells54] at hl
    obtain ⟨c0, c1, c2, c3, c4, c5, rfl⟩ := list6 hl
    obtain ⟨x0, x1, x2, x3, rfl⟩ : ∃ x0 x1 x2 x3, xs = [x0, x1, x2, x3] := by
      match xs, hlen with
      | [x0, x1, x2, x3], _ => exact ⟨x0, x1, x2, x3, rfl⟩
    have f0 := hf 0 ⟨"Name", 9, 0, false, "", "", 0⟩ rfl
    have f1 := hf 1 ⟨"Key", 9, 1, false, "", "", 16⟩ rfl
    have f2 := hf 2 ⟨"Val", 51, 2, false, "", "", 32⟩ rfl
    have f3 := hf 3 ⟨"Kids", 52, 5, false, "", "", 64⟩ rfl
    simp only [cells9, cells51, cells52, List.drop_zero, List.drop_succ_cons, List.take_succ_cons, List.take_zero, List.getElem?_cons_zero, List.getElem?_cons_succ] at f0 f1 f2 f3
    obtain ⟨s0, e0, rfl, _⟩ := DataW.trod_string Try.underlying9 f0
    obtain ⟨s1, e1, rfl, _⟩ := DataW.trod_string Try.underlying9 f1
    obtain ⟨ys, m, hm, rfl, _, hlen2, hf2⟩ := DataW.trod_struct Try.underlying51 f2
    obtain ⟨y0, y1, y2, rfl⟩ : ∃ y0 y1 y2, ys = [y0, y1, y2] := by
      match ys, hlen2 with
      | [y0, y1, y2], _ => exact ⟨y0, y1, y2, rfl⟩
    have g0 := hf2 0 ⟨"Kind", 3, 0, false, "", "", 0⟩ rfl
    have g1 := hf2 1 ⟨"Num", 24, 1, false, "", "", 8⟩ rfl
    have g2 := hf2 2 ⟨"Text", 9, 2, false, "", "", 16⟩ rfl
    simp only [cells9, cells3, cells24, List.drop_zero, List.drop_succ_cons, List.take_succ_cons, List.take_zero, List.getElem?_cons_zero, List.getElem?_cons_succ] at g0 g1 g2
    obtain ⟨k0, e2, rfl, _⟩ := DataW.trod_int Try.underlying3 g0
    obtain ⟨k1, e3, rfl, _⟩ := DataW.trod_int Try.underlying24 g1
    obtain ⟨s2, e4, rfl, _⟩ := DataW.trod_string Try.underlying9 g2
    obtain rfl : c0 = .string s0 := by simpa using e0
    obtain rfl : c1 = .string s1 := by simpa using e1
    obtain rfl : c2 = .int .i64 k0 := by simpa using e2
    obtain rfl : c3 = .int .u64 k1 := by simpa using e3
    obtain rfl : c4 = .string s2 := by simpa using e4
    simp only [List.map_cons, List.map_nil] at hx ⊢
    rw [show ∀ l : List (DataW H), Rows.uptoBulk (.agg l) = Rows.uptoBulkAll l + 1 from fun l => by simp [Rows.uptoBulk]] at hx ⊢
    simp only [Rows.uptoBulkAll] at hx ⊢
    rcases DataW.trod_slice Try.underlying52 f3 with ⟨e5, rfl⟩ | ⟨a, len, cap, elems, rest, k, hk, e5, rfl, _, hlc, hcm, hel, helem, _, _⟩
    · obtain rfl : c5 = .slice none 0 0 := by simpa using e5
      refine ⟨.mk s0 s1 k0 k1 s2 [], .mk s0 s1 k0 k1 s2 [] none 0 [] rfl (by simp) (fun h => absurd rfl h) (fun i k c h => by simp at h) ⟨Nat.le_refl _, by simp, fun _ => rfl⟩, ?_⟩
      simp only [T.size, sizeL]
      omega
    · obtain rfl : c5 = .slice (some a) len cap := by simpa using e5
      simp only [Rows.uptoBulk] at hx ⊢
      subst hel
      rw [cells54] at helem
      have hsub : ∀ (i : Nat) (y : DataW H × List MemPlace), elems[i]? = some y → Rows.uptoBulk y.1 ≤ Rows.uptoBulkAll (elems.map (·.1)) := fun i y hi => bulks.part_le (List.mem_map_of_mem (List.mem_of_getElem? hi))
      have hone : ∀ (i : Nat) (y : DataW H × List MemPlace), elems[i]? = some y → ∃ (c : List Value) (t : T), RT (fun _ => True) W t c ∧ t.size ≤ Rows.uptoBulk y.1 ∧ (∀ q v, c[q]? = some v → W.cell? ((a.add (i * 6)).add q) = some v) := by
        intro i y hi
        have hlt := (List.getElem?_eq_some_iff.1 hi).1
        have hb := helem i hlt
        rw [hi, Option.bind_eq_some_iff] at hb
        obtain ⟨c, hc, hy⟩ := hb
        obtain ⟨t, ht, hs⟩ := ih k (by omega) c y hy (by have := hsub i y hi; omega)
        obtain ⟨_, hcl, hcc⟩ := World.cells?_some hc
        refine ⟨c, t, ht, hs, fun q v hv => ?_⟩
        have hq := (List.getElem?_eq_some_iff.1 hv).1
        rw [hcc q (by omega), hv]
      have hall : ∀ (l : List (DataW H × List MemPlace)) (s : Nat), (∀ (i : Nat) (y : DataW H × List MemPlace), l[i]? = some y → elems[s + i]? = some y) → ∃ (css : List (List Value)) (ts : List T), css.length = l.length ∧ ts.length = l.length ∧ sizeL ts ≤ Rows.uptoBulkAll (l.map (·.1)) ∧
          ∀ (i : Nat) (c : List Value) (t : T), css[i]? = some c → ts[i]? = some t → RT (fun _ => True) W t c ∧ ∀ q v, c[q]? = some v → W.cell? ((a.add ((s + i) * 6)).add q) = some v := by
        intro l
        induction l with
        | nil => intro s _; exact ⟨[], [], rfl, rfl, by simp [sizeL], by simp⟩
        | cons y l ihl =>
          intro s hl
          obtain ⟨c, t, h1, h2, h3⟩ := hone s y (by have := hl 0 y rfl; simpa using this)
          obtain ⟨css, ts, q1, q2, q3, q4⟩ := ihl (s + 1) (fun i z hi => by have := hl (i + 1) z (by simpa using hi); rw [show s + 1 + i = s + (i + 1) by omega]; exact this)
          refine ⟨c :: css, t :: ts, by simp [q1], by simp [q2], ?_, fun i d u hd hu => ?_⟩
          · simp only [sizeL, List.map_cons, Rows.uptoBulkAll]; omega
          · cases i with
            | zero => simp at hd hu; subst hd hu; exact ⟨h1, h3⟩
            | succ i =>
              have := q4 i d u (by simpa using hd) (by simpa using hu)
              rw [show s + (i + 1) = s + 1 + i by omega]
              exact this
      obtain ⟨css, ts, q1, q2, q3, q4⟩ := hall elems 0 (fun i y hi => by rw [Nat.zero_add]; exact hi)
      have hlen' : ts.length ≤ 1048576 := by have := sizeL_len ts; omega
      refine ⟨.mk s0 s1 k0 k1 s2 ts, ?_, by simp only [T.size]; omega⟩
      rw [← q2]
      have hrow : RRow (fun _ => True) W (some a) ts cap := by
        refine ⟨by omega, hlen', fun h => (by cases h), fun i t hi => ?_⟩
        have hlt : i < css.length := by rw [q1, ← q2]; exact (List.getElem?_eq_some_iff.1 hi).1
        obtain ⟨h1, h2⟩ := q4 i _ t (List.getElem?_eq_getElem hlt) hi
        have h6 := h1.len
        generalize css[i] = c at h1 h2 h6
        have hlt0 : 0 < css.length := by omega
        have hlt1 : 0 < ts.length := by omega
        obtain ⟨z1, z2⟩ := q4 0 _ _ (List.getElem?_eq_getElem hlt0) (List.getElem?_eq_getElem hlt1)
        have z6 := z1.len
        generalize css[0] = d at z1 z2 z6
        obtain ⟨b, off, spot⟩ := a
        have hs : spot = none := by
          cases d with
          | nil => simp at z6
          | cons v d => simpa [Addr.add] using World.cell?_spot (z2 0 v rfl)
        subst hs
        refine ⟨b, off, c, rfl, trivial, h1, fun q v hv => ?_⟩
        have := h2 q v hv
        rw [Nat.zero_add, addr_add, addr_add] at this
        exact this
      exact RT.of_row (t := .mk s0 s1 k0 k1 s2 ts) hrow
end Go.Proofs.Ytgkgedjmnbjalaa
set_option linter.unusedSimpArgs false
namespace Go.Proofs.Ytgkgedjmnbjalaa
open Go.RowKit Go.Sort
def ltB (a b : ByteArray) : Bool := Op.bytesLess a.toList b.toList
def lessT (a b : T) : Bool := ltB a.name b.name || decide (a.name = b.name) && ltB a.key b.key
def cmpB (a b : ByteArray) : Int := if ltB a b = true then -1 else if a = b then 0 else 1
def cmpT (a b : T) : Int := if cmpB a.name b.name ≠ 0 then cmpB a.name b.name else cmpB a.key b.key
set_option maxHeartbeats 2000000 in
theorem cmp_compare (a b : ByteArray) (w : World) : Calls Try.prog 148 #[.string a, .string b] w fun e w' => e = .returned (.int .i64 (cmpB a b)) ∧ w' = w := by
  have hs := str_eq a b
  by_cases hlt : ltB a b = true
  · have h1 : cmpB a b = -1 := if_pos hlt
    have h2 : Op.bytesLess a.toList b.toList = true := hlt
    rw [h1]
    clear hs hlt h1
    go_enter Try.func148, Try.ntmps148
    go_wp2
    go_ret
    exact ⟨rfl, rfl⟩
  · have h2 : Op.bytesLess a.toList b.toList = false := by simpa [ltB] using hlt
    by_cases hab : a = b
    · have h1 : cmpB a b = 0 := by rw [cmpB, if_neg hlt, if_pos hab]
      have h3 : (a.toList == b.toList) = true := by rw [hs]; simpa using hab
      rw [h1]
      clear hs hlt h1 hab
      go_enter Try.func148, Try.ntmps148
      go_wp2
      go_ret
      exact ⟨rfl, rfl⟩
    · have h1 : cmpB a b = 1 := by rw [cmpB, if_neg hlt, if_neg hab]
      have h3 : (a.toList == b.toList) = false := by rw [hs]; simpa using hab
      rw [h1]
      clear hs hlt h1 hab
      go_enter Try.func148, Try.ntmps148
      go_wp2
      go_ret
      exact ⟨rfl, rfl⟩
set_option maxHeartbeats 2000000 in
theorem cmp_or (x y : Int) (b c : Nat) (w : World) (h0 : w.cell? ⟨b, 0, none⟩ = some (.int .i64 x)) (h1 : w.cell? ⟨b, 1, none⟩ = some (.int .i64 y)) :
    Calls Try.prog 147 #[.slice (some ⟨b, 0, none⟩) 2 c] w fun e w' => e = .returned (.int .i64 (if x ≠ 0 then x else y)) ∧ w' = w := by
  generalize hr : (if x ≠ 0 then x else y) = r
  go_enter Try.func147, Try.ntmps147
  go_wp2
  go_loopg [5, 8] 3 (fun q i j wr => wr = w ∧ ∃ n : Nat, n ≤ 2 ∧ q = 3 - n ∧ j = .int .i64 n ∧ (1 ≤ n → x = 0) ∧ (2 ≤ n → y = 0))
  case atStart => exact ⟨rfl, 0, by omega, rfl, rfl, by omega, by omega⟩
  case round =>
  obtain ⟨rfl, n, hn, hq, rfl, hx, hy⟩ := hrel
  have hr := Hd.mk hr
  have hc : n = 0 ∨ n = 1 ∨ n = 2 := by omega
  rcases hc with rfl | rfl | rfl
  · by_cases h : x = 0
    · have h2 : (x != 0) = false := by simpa using h
      go_wp2
      go_roundg 2
      case measure => omega
      case rel => exact ⟨rfl, 1, by omega, rfl, rfl, fun _ => h, by omega⟩
    · have h2 : (x != 0) = true := by simpa using h
      go_wp2
      go_ret
      exact ⟨ret_int (by rw [← hr.out, if_pos h]), rfl⟩
  · have hx0 := hx (by omega)
    by_cases h : y = 0
    · have h2 : (y != 0) = false := by simpa using h
      go_wp2
      go_roundg 1
      case measure => omega
      case rel => exact ⟨rfl, 2, by omega, rfl, rfl, fun _ => hx0, fun _ => h⟩
    · have h2 : (y != 0) = true := by simpa using h
      go_wp2
      go_ret
      exact ⟨ret_int (by rw [← hr.out, if_neg (by simpa using hx0)]), rfl⟩
  · have hx0 := hx (by omega)
    have hy0 := hy (by omega)
    go_wp2
    go_ret
    exact ⟨ret_int (by rw [← hr.out, if_neg (by simpa using hx0), hy0]), rfl⟩
def two (x y : Int) : SP := ⟨fun v w => ∃ D, v = .slice (some ⟨D, 0, none⟩) 2 2 ∧ Blk w D [.int .i64 x, .int .i64 y] 3, fun _ _ _ h ⟨D, e, hb⟩ => ⟨D, e, hb.ext h⟩⟩
set_option maxRecDepth 100000 in
set_option maxHeartbeats 4000000 in
theorem tree_compare (a b : T) (K1 K2 : Option Addr) (n1 c1 n2 c2 : Nat) (w : World) :
    Calls Try.prog 116 #[.agg (cT a.name a.key a.kind a.num a.text K1 n1 c1).toArray, .agg (cT b.name b.key b.kind b.num b.text K2 n2 c2).toArray] w fun e w' => e = .returned (.int .i64 (cmpT a b)) ∧ Ext w w' := by
  simp only [cT]
  go_enter Try.func116, Try.ntmps116
  go_wp2_with fail
  have kx := Hd.mk ((Ext.alloc w (.cells #[.string a.name, .string a.key, .int .i64 a.kind, .int .u64 a.num, .string a.text, .slice K1 n1 c1] 54)).trans (Ext.alloc _ (.cells #[.string b.name, .string b.key, .int .i64 b.kind, .int .u64 b.num, .string b.text, .slice K2 n2 c2] 54)))
  have ka := Hd.mk ((Blk.new w #[.string a.name, .string a.key, .int .i64 a.kind, .int .u64 a.num, .string a.text, .slice K1 n1 c1] 54).alloc (.cells #[.string b.name, .string b.key, .int .i64 b.kind, .int .u64 b.num, .string b.text, .slice K2 n2 c2] 54))
  have kb := Hd.mk (Blk.new2 w (.cells #[.string a.name, .string a.key, .int .i64 a.kind, .int .u64 a.num, .string a.text, .slice K1 n1 c1] 54) #[.string b.name, .string b.key, .int .i64 b.kind, .int .u64 b.num, .string b.text, .slice K2 n2 c2] 54)
  generalize w.heap.size = pA at *
  generalize ((w.alloc _).alloc _) = W at *
  refine Flow.wp_region_flow_l (fun t => match t with
    | 5 => SP.eq (.pointer (some ⟨pA, 0, none⟩))
    | 6 => SP.eq (.string a.name)
    | 7 => SP.eq (.pointer (some ⟨(pA + 1), 0, none⟩))
    | 8 => SP.eq (.string b.name)
    | 9 => SP.eq (.int .i64 (cmpB a.name b.name))
    | 10 => SP.eq (.pointer (some ⟨pA, 1, none⟩))
    | 11 => SP.eq (.string a.key)
    | 12 => SP.eq (.pointer (some ⟨(pA + 1), 1, none⟩))
    | 13 => SP.eq (.string b.key)
    | 14 => SP.eq (.int .i64 (cmpB a.key b.key))
    | 15 => two (cmpB a.name b.name) (cmpB a.key b.key)
    | 16 => SP.eq (.int .i64 (cmpT a b))
    | 4 => SP.eq (.int .i64 (cmpT a b))
    | _ => SP.any) 13 (by kernel_rfl) 17 rfl (by kernel_rfl) ?_ ?_
  · skip
    refine ⟨?_, ?_, ?_, ?_, ?_, ?_, ?_, ?_, ?_, ?_, ?_, ?_, ?_, trivial⟩
    · intro act W2 hk
      refine Flow.does_intro rfl (fun K hK => ?_)
      have e2 : act.tmps[2]?.getD undef = .pointer (some ⟨pA, 0, none⟩) := hk.o 2 (by kernel_rfl)
      clear hk
      go_simp
      exact hK _ _ (Ext.refl _) (fun d hd => by cases hd; rfl)
    · intro act W2 hk
      refine Flow.does_intro rfl (fun K hK => ?_)
      have e5 : act.tmps[5]?.getD undef = .pointer (some ⟨pA, 0, none⟩) := hk.v 5 (by kernel_rfl)
      have g := ((ka.out).ext ((Ext.drew W).trans hk.ext)).cell
      clear hk
      go_simp
      exact hK _ _ (Ext.refl _) (fun d hd => by cases hd; rfl)
    · intro act W2 hk
      refine Flow.does_intro rfl (fun K hK => ?_)
      have e3 : act.tmps[3]?.getD undef = .pointer (some ⟨(pA + 1), 0, none⟩) := hk.o 3 (by kernel_rfl)
      clear hk
      go_simp
      exact hK _ _ (Ext.refl _) (fun d hd => by cases hd; rfl)
    · intro act W2 hk
      refine Flow.does_intro rfl (fun K hK => ?_)
      have e7 : act.tmps[7]?.getD undef = .pointer (some ⟨(pA + 1), 0, none⟩) := hk.v 7 (by kernel_rfl)
      have g := ((kb.out).ext ((Ext.drew W).trans hk.ext)).cell
      clear hk
      go_simp
      exact hK _ _ (Ext.refl _) (fun d hd => by cases hd; rfl)
    · intro act W2 hk
      refine Flow.does_intro rfl (fun K hK => ?_)
      have e6 : act.tmps[6]?.getD undef = .string a.name := hk.v 6 (by kernel_rfl)
      have e8 : act.tmps[8]?.getD undef = .string b.name := hk.v 8 (by kernel_rfl)
      clear hk
      go_simp
      refine Calls.mono (cmp_compare _ _ _) ?_
      rintro e W3 ⟨rfl, rfl⟩
      exact hK _ _ (Ext.refl _) (fun d hd => by cases hd; rfl)
    · intro act W2 hk
      refine Flow.does_intro rfl (fun K hK => ?_)
      have e2 : act.tmps[2]?.getD undef = .pointer (some ⟨pA, 0, none⟩) := hk.o 2 (by kernel_rfl)
      clear hk
      go_simp
      exact hK _ _ (Ext.refl _) (fun d hd => by cases hd; rfl)
    · intro act W2 hk
      refine Flow.does_intro rfl (fun K hK => ?_)
      have e10 : act.tmps[10]?.getD undef = .pointer (some ⟨pA, 1, none⟩) := hk.v 10 (by kernel_rfl)
      have g := ((ka.out).ext ((Ext.drew W).trans hk.ext)).cell
      clear hk
      go_simp
      exact hK _ _ (Ext.refl _) (fun d hd => by cases hd; rfl)
    · intro act W2 hk
      refine Flow.does_intro rfl (fun K hK => ?_)
      have e3 : act.tmps[3]?.getD undef = .pointer (some ⟨(pA + 1), 0, none⟩) := hk.o 3 (by kernel_rfl)
      clear hk
      go_simp
      exact hK _ _ (Ext.refl _) (fun d hd => by cases hd; rfl)
    · intro act W2 hk
      refine Flow.does_intro rfl (fun K hK => ?_)
      have e12 : act.tmps[12]?.getD undef = .pointer (some ⟨(pA + 1), 1, none⟩) := hk.v 12 (by kernel_rfl)
      have g := ((kb.out).ext ((Ext.drew W).trans hk.ext)).cell
      clear hk
      go_simp
      exact hK _ _ (Ext.refl _) (fun d hd => by cases hd; rfl)
    · intro act W2 hk
      refine Flow.does_intro rfl (fun K hK => ?_)
      have e11 : act.tmps[11]?.getD undef = .string a.key := hk.v 11 (by kernel_rfl)
      have e13 : act.tmps[13]?.getD undef = .string b.key := hk.v 13 (by kernel_rfl)
      clear hk
      go_simp
      refine Calls.mono (cmp_compare _ _ _) ?_
      rintro e W3 ⟨rfl, rfl⟩
      exact hK _ _ (Ext.refl _) (fun d hd => by cases hd; rfl)
    · intro act W2 hk
      refine Flow.does_intro rfl (fun K hK => ?_)
      have e9 : act.tmps[9]?.getD undef = .int .i64 (cmpB a.name b.name) := hk.v 9 (by kernel_rfl)
      have e14 : act.tmps[14]?.getD undef = .int .i64 (cmpB a.key b.key) := hk.v 14 (by kernel_rfl)
      clear hk
      go_simp
      exact hK _ _ (Ext.alloc _ _) (fun d hd => by cases hd; exact ⟨_, rfl, Blk.new _ _ _⟩)
    · intro act W2 hk
      refine Flow.does_intro rfl (fun K hK => ?_)
      obtain ⟨D, e15, hD⟩ : (two _ _).p _ _ := hk.v 15 (by kernel_rfl)
      have hD := Hd.mk hD
      clear hk
      go_simp
      refine Calls.mono (cmp_or _ _ D 2 _ (hD.out.cell 0) (hD.out.cell 1)) ?_
      rintro e W3 ⟨rfl, rfl⟩
      exact hK _ _ (Ext.refl _) (fun d hd => by cases hd; rfl)
    · intro act W2 hk
      refine Flow.does_intro rfl (fun K hK => ?_)
      have e16 : act.tmps[16]?.getD undef = .int .i64 (cmpT a b) := hk.v 16 (by kernel_rfl)
      clear hk
      go_simp
      exact hK _ _ (Ext.refl _) (fun d hd => by cases hd; rfl)
  · intro act W2 he
    have hxW2 := Hd.mk ((Ext.drew W).trans he.ext)
    obtain ⟨us, hA, hF⟩ := he.out [5, 6, 7, 8, 9, 10, 11, 12, 13, 14, 15, 16, 4] (by kernel_rfl)
    simp only [Flow.fillL, List.contains_cons, List.contains_nil, Nat.reduceBEq, Bool.or_false, Bool.false_or, Bool.or_true, Bool.true_or, ↓reduceIte, Nat.reduceAdd, Bool.false_eq_true] at hA
    subst hA
    have f4 : us 4 = .int .i64 (cmpT a b) := hF 4 (by simp)
    clear hF he
    rw [f4]
    clear f4
    refine (show wpList _ _ _ [] _ _ from ?_)
    go_wp2_with fail
    go_ret
    exact ⟨rfl, kx.out.trans hxW2.out⟩
theorem ltB_iff (a b : ByteArray) : ltB a b = decide (a.toList < b.toList) := bytesLess_eq _ _
theorem cmpB_neg (a b : ByteArray) : (cmpB a b < 0) ↔ ltB a b = true := by
  unfold cmpB
  split
  · simp_all
  · rename_i h
    split <;> simp_all
theorem cmpB_zero {a b : ByteArray} : cmpB a b = 0 ↔ (ltB a b = false ∧ a = b) := by
  unfold cmpB
  by_cases h : ltB a b = true
  · simp [h]
  · by_cases h2 : a = b <;> simp [h, h2]
theorem ltB_irr (a : ByteArray) : ltB a a = false := by rw [ltB_iff]; simp
theorem cmpT_neg (a b : T) : decide (cmpT a b < 0) = lessT a b := by
  unfold cmpT lessT
  by_cases h : cmpB a.name b.name = 0
  · obtain ⟨h1, h2⟩ := cmpB_zero.1 h
    rw [if_neg (by simpa using h), h1, h2]
    simp [cmpB_neg]
  · rw [if_pos h]
    by_cases h1 : ltB a.name b.name = true
    · simp [(cmpB_neg _ _).2 h1, h1]
    · have h3 : ¬ cmpB a.name b.name < 0 := fun hh => h1 ((cmpB_neg _ _).1 hh)
      have h4 : a.name ≠ b.name := fun hh => h (cmpB_zero.2 ⟨by simpa using h1, hh⟩)
      simp [h3, h1, h4]
set_option maxRecDepth 100000 in
set_option maxHeartbeats 4000000 in
theorem tree_less (a b : T) (K1 K2 : Option Addr) (n1 c1 n2 c2 : Nat) (w : World) :
    Calls Try.prog 66 #[.agg (cT a.name a.key a.kind a.num a.text K1 n1 c1).toArray, .agg (cT b.name b.key b.kind b.num b.text K2 n2 c2).toArray] w fun e w' => e = .returned (.bool (lessT a b)) ∧ Ext w w' := by
  rw [← cmpT_neg]
  have hc := Hd.mk (tree_compare a b K1 K2 n1 c1 n2 c2)
  simp only [cT] at hc ⊢
  go_enter Try.func66, Try.ntmps66
  go_wp2_with fail
  refine (hc.out _).mono ?_
  rintro e w1 ⟨rfl, hx⟩
  have kx := Hd.mk (((Ext.alloc w (.cells #[.string a.name, .string a.key, .int .i64 a.kind, .int .u64 a.num, .string a.text, .slice K1 n1 c1] 54)).trans (Ext.alloc _ (.cells #[.string b.name, .string b.key, .int .i64 b.kind, .int .u64 b.num, .string b.text, .slice K2 n2 c2] 54))).trans hx)
  go_wp2_with fail
  go_ret
  exact ⟨rfl, kx.out⟩
set_option maxRecDepth 100000 in
set_option maxHeartbeats 4000000 in
theorem ref_less (a b : T) (K1 K2 : Option Addr) (n1 c1 n2 c2 : Nat) (w : World) :
    Calls Try.prog 67 #[.agg (cT a.name a.key a.kind a.num a.text K1 n1 c1).toArray, .agg (cT b.name b.key b.kind b.num b.text K2 n2 c2).toArray] w fun e w' => e = .returned (.bool (lessT a b)) ∧ Ext w w' := by
  by_cases h1 : ltB a.name b.name = true
  · have h1' : Op.bytesLess a.name.toList b.name.toList = true := h1
    have hr : lessT a b = true := by rw [lessT, h1]; rfl
    rw [hr]
    clear hr h1
    simp only [cT]
    go_enter Try.func67, Try.ntmps67
    have kx := Hd.mk ((Ext.alloc w (.cells #[.string a.name, .string a.key, .int .i64 a.kind, .int .u64 a.num, .string a.text, .slice K1 n1 c1] 54)).trans (Ext.alloc _ (.cells #[.string b.name, .string b.key, .int .i64 b.kind, .int .u64 b.num, .string b.text, .slice K2 n2 c2] 54)))
    go_wp2_with fail
    go_ret
    exact ⟨rfl, kx.out⟩
  · have h1' : Op.bytesLess a.name.toList b.name.toList = false := (Bool.not_eq_true _).mp h1
    have h1'' : ltB a.name b.name = false := h1'
    by_cases h2 : a.name = b.name
    · have hr : lessT a b = Op.bytesLess a.key.toList b.key.toList := by rw [lessT, h1'', decide_eq_true h2]; rfl
      have h2' : (a.name.toList == b.name.toList) = true := by rw [str_eq]; exact decide_eq_true h2
      rw [hr]
      clear hr h1 h1'' h2
      simp only [cT]
      go_enter Try.func67, Try.ntmps67
      have kx := Hd.mk ((Ext.alloc w (.cells #[.string a.name, .string a.key, .int .i64 a.kind, .int .u64 a.num, .string a.text, .slice K1 n1 c1] 54)).trans (Ext.alloc _ (.cells #[.string b.name, .string b.key, .int .i64 b.kind, .int .u64 b.num, .string b.text, .slice K2 n2 c2] 54)))
      go_wp2_with fail
      go_ret
      exact ⟨rfl, kx.out⟩
    · have hr : lessT a b = false := by rw [lessT, h1'', decide_eq_false h2]; rfl
      have h2' : (a.name.toList == b.name.toList) = false := by rw [str_eq]; exact decide_eq_false h2
      rw [hr]
      clear hr h1 h1'' h2
      simp only [cT]
      go_enter Try.func67, Try.ntmps67
      have kx := Hd.mk ((Ext.alloc w (.cells #[.string a.name, .string a.key, .int .i64 a.kind, .int .u64 a.num, .string a.text, .slice K1 n1 c1] 54)).trans (Ext.alloc _ (.cells #[.string b.name, .string b.key, .int .i64 b.kind, .int .u64 b.num, .string b.text, .slice K2 n2 c2] 54)))
      go_wp2_with fail
      go_ret
      exact ⟨rfl, kx.out⟩
end Go.Proofs.Ytgkgedjmnbjalaa

/- Texts that the law needs, joined.
   Conditions: none. -/
import Derived.Test.YtgkgedjmnbjalaaRows
import Derived.Orders
import Derived.Below
import Derived.KernelRfl
import Derived.RegionTactic
import Derived.WalkKit
import Derived.ProofKit
import Derived.JoinedOf
import Derived.OrdersIn
import Derived.RangeFuncCalls
import Derived.OwnWalkIn
import Derived.Tactics
import Derived.TacticsIn
namespace Go.Proofs.Ytgkgedjmnbjalaa.bulks
theorem one_le {H : Type} (d : DataW H) : 1 ≤ Rows.uptoBulk d := by
  cases d with
  | lit l => cases l <;> simp [Rows.uptoBulk]
  | nil => simp [Rows.uptoBulk]
  | ptr d => simp [Rows.uptoBulk]
  | slice elems spare => simp [Rows.uptoBulk]
  | agg parts => simp [Rows.uptoBulk]
  | iface t d => simp [Rows.uptoBulk]
  | map entries => simp [Rows.uptoBulk]
  | held h => simp [Rows.uptoBulk]
theorem part_le {H : Type} {d : DataW H} {l : List (DataW H)} (h : d ∈ l) : Rows.uptoBulk d ≤ Rows.uptoBulkAll l := by
  induction l with
  | nil => cases h
  | cons x r ih =>
    simp only [Rows.uptoBulkAll]
    cases List.mem_cons.1 h with
    | inl e => subst e; omega
    | inr e => have := ih e; omega
theorem length_le {H : Type} (l : List (DataW H)) : l.length ≤ Rows.uptoBulkAll l := by
  induction l with
  | nil => simp [Rows.uptoBulkAll]
  | cons x r ih => have := one_le x; simp only [Rows.uptoBulkAll, List.length_cons]; omega
theorem slice_le {H : Type} (elems spare : List (DataW H)) : elems.length + spare.length + 1 ≤ Rows.uptoBulk (.slice elems spare) := by
  have h1 := length_le elems
  have h2 := length_le spare
  simp only [Rows.uptoBulk]
  omega
theorem slice_elems {H : Type} (elems spare : List (DataW H)) : Rows.uptoBulkAll elems + 1 ≤ Rows.uptoBulk (.slice elems spare) := by
  simp only [Rows.uptoBulk]
  omega
theorem bound {H : Type} {l : List (DataW H)} (hk : Rows.uptoSmall H l = true) : Rows.uptoBulkAll l ≤ 1048576 := by
  simpa [Rows.uptoSmall] using hk
end Go.Proofs.Ytgkgedjmnbjalaa.bulks
namespace Go.Proofs.Ytgkgedjmnbjalaa
open Go.RowKit
structure Hd (p : Prop) : Prop where mk :: (out : p)
abbrev Ext (w w' : World) : Prop := Below w.heap.size w w'
theorem Ext.refl (w : World) : Ext w w := Below.refl _ w
theorem Ext.trans {a b c : World} (h : Ext a b) (k : Ext b c) : Ext a c := Below.trans h (k.mono h.size)
theorem Ext.drew (w : World) : Ext w w.drew := ⟨rfl, rfl, rfl, Nat.le_refl _, fun _ _ => rfl⟩
theorem Ext.alloc (w : World) (o : Obj) : Ext w (w.alloc o) := (Below.refl _ w).alloc (Nat.le_refl _) o
theorem Ext.cell {w w' : World} (h : Ext w w') {a : Addr} {v : Value} (hc : w.cell? a = some v) : w'.cell? a = some v :=
  (Below.cell h (World.block_lt_of_cell? w a hc)).trans hc
theorem Ext.heap {w w' : World} (h : Ext w w') {b : Nat} {o : Obj} (hc : w.heap[b]? = some o) : w'.heap[b]? = some o :=
  (h.block b (by rcases Nat.lt_or_ge b w.heap.size with h | h; exact h; simp [Array.getElem?_eq_none h] at hc)).trans hc
structure SP where
  p : Value → World → Prop
  mono : ∀ v w w', Ext w w' → p v w → p v w'
def SP.eq (x : Value) : SP := ⟨fun v _ => v = x, fun _ _ _ _ h => h⟩
def SP.any : SP := ⟨fun _ _ => True, fun _ _ _ _ h => h⟩
namespace Flow
def certB (ops : Array Oper) (C : Array Nat) : Bool :=
  (List.range ops.size).all fun j => (List.range ops.size).all fun i =>
    !(C.getD j 0).testBit i || ((ops[j]?).map fun o => o.after.any fun e => Region.binds .any e && decide (e.on < j) && (e.on == i || (C.getD e.on 0).testBit i)).getD false
def closedB (ops : Array Oper) (l : Array Bool) : Bool :=
  (List.range ops.size).all fun j => !l.getD j false || ((ops[j]?).map fun o => o.after.all fun e => !Region.binds .any e || l.getD e.on false).getD true
def fitB (ops : Array Oper) (C : Array Nat) (l : Array Bool) (L : List Nat) : Bool :=
  (l.size == ops.size) && (L.all fun i => decide (i < ops.size) && !l.getD i false) &&
  ((List.range ops.size).all fun j => l.getD j false || L.contains j || L.all fun i => (C.getD j 0).testBit i) &&
  ((List.range ops.size).all fun j => (List.range ops.size).all fun i => i == j || !L.contains i || !L.contains j ||
    (match (ops[i]?).bind (·.dst), (ops[j]?).bind (·.dst) with | some d, some d' => d != d' | _, _ => true))
def depB (ops : Array Oper) (C : Array Nat) (L : List Nat) (i t : Nat) : Bool :=
  L.any fun j => (C.getD i 0).testBit j && ((ops[j]?).bind (·.dst)) == some t
def oldB (ops : Array Oper) (C : Array Nat) (L : List Nat) (i t : Nat) : Bool :=
  L.all fun j => ((ops[j]?).bind (·.dst)) != some t || j == i || (C.getD j 0).testBit i
variable {P : Program} {ops : Array Oper} {Q : Exit → Act → World → Prop}
structure Known (ops : Array Oper) (C : Array Nat) (L : List Nat) (F : Tmp → SP) (a0 : Act) (w0 : World) (i : Nat) (a : Act) (w : World) : Prop where
  ext : Ext w0 w
  size : a.tmps.size = a0.tmps.size
  dep : ∀ t, depB ops C L i t = true → (F t).p (a.tmps.getD t undef) w
  old : ∀ t, oldB ops C L i t = true → a.tmps.getD t undef = a0.tmps.getD t undef
theorem Known.v {C : Array Nat} {L : List Nat} {F : Tmp → SP} {a0 : Act} {w0 : World} {i : Nat} {a : Act} {w : World} (h : Known ops C L F a0 w0 i a w) (t : Tmp) (hd : depB ops C L i t = true) : (F t).p (a.tmps[t]?.getD undef) w := by
  have := h.dep t hd
  rwa [Array.getD_eq_getD_getElem?] at this
theorem Known.o {C : Array Nat} {L : List Nat} {F : Tmp → SP} {a0 : Act} {w0 : World} {i : Nat} {a : Act} {w : World} (h : Known ops C L F a0 w0 i a w) (t : Tmp) (hd : oldB ops C L i t = true) : a.tmps[t]?.getD undef = a0.tmps.getD t undef := by
  have := h.old t hd
  rwa [Array.getD_eq_getD_getElem?] at this
def Does (P : Program) (ops : Array Oper) (Q : Exit → Act → World → Prop) (F : Tmp → SP) (o : Oper) (a : Act) (w : World) : Prop :=
  if Region.wanted o (yielded ops a.tmps) then o.wp P a w (fun a' w' => ∃ v, a' = a.put o.dst v ∧ Ext w w' ∧ ∀ d, o.dst = some d → (F d).p v w') Q
  else ∀ d, o.dst = some d → (F d).p undef w
structure Ends (ops : Array Oper) (L : List Nat) (F : Tmp → SP) (a0 : Act) (w0 : World) (a : Act) (w : World) : Prop where
  ext : Ext w0 w
  size : a.tmps.size = a0.tmps.size
  defers : a.defers = a0.defers
  new : ∀ j ∈ L, ∀ t, (ops[j]?).bind (·.dst) = some t → (F t).p (a.tmps.getD t undef) w
  old : ∀ t, (L.all fun j => ((ops[j]?).bind (·.dst)) != some t) = true → a.tmps.getD t undef = a0.tmps.getD t undef
structure Inv (ops : Array Oper) (L : List Nat) (F : Tmp → SP) (a0 : Act) (w0 : World) (l0 l : Array Bool) (a : Act) (w : World) : Prop where
  ext : Ext w0 w
  size : a.tmps.size = a0.tmps.size
  defers : a.defers = a0.defers
  lsize : l.size = ops.size
  closed : ∀ j o, ops[j]? = some o → l.getD j false = true → ∀ e ∈ o.after, Region.binds .any e = true → l.getD e.on false = true
  out : ∀ j, j ∉ L → l.getD j false = l0.getD j false
  new : ∀ j ∈ L, l.getD j false = true → ∀ t, (ops[j]?).bind (·.dst) = some t → (F t).p (a.tmps.getD t undef) w
  old : ∀ t, (∀ j ∈ L, l.getD j false = true → (ops[j]?).bind (·.dst) ≠ some t) → a.tmps.getD t undef = a0.tmps.getD t undef
theorem certB_spec {C : Array Nat} (h : certB ops C = true) {j i : Nat} (hj : j < ops.size) (hi : i < ops.size) (hb : (C.getD j 0).testBit i = true) :
    ∃ o e, ops[j]? = some o ∧ e ∈ o.after ∧ Region.binds .any e = true ∧ e.on < j ∧ (e.on = i ∨ (C.getD e.on 0).testBit i = true) := by
  unfold certB at h
  rw [List.all_eq_true] at h
  have h1 := h j (List.mem_range.2 hj)
  rw [List.all_eq_true] at h1
  have h2 := h1 i (List.mem_range.2 hi)
  rw [hb] at h2
  cases ho : ops[j]? with
  | none => simp [ho] at h2
  | some o =>
    simp only [ho, Option.map_some, Option.getD_some, Bool.not_true, Bool.false_or, Array.any_eq_true] at h2
    obtain ⟨k, hk, h3⟩ := h2
    simp only [Bool.and_eq_true, Bool.or_eq_true, decide_eq_true_eq, beq_iff_eq] at h3
    exact ⟨o, o.after[k], rfl, Array.getElem_mem hk, h3.1.1, h3.1.2, h3.2⟩
theorem ahead_listed {C : Array Nat} (hC : certB ops C = true) {l : Array Bool}
    (hcl : ∀ j o, ops[j]? = some o → l.getD j false = true → ∀ e ∈ o.after, Region.binds .any e = true → l.getD e.on false = true) (i : Nat) (hi : i < ops.size) :
    ∀ j, j < ops.size → (∀ o, ops[j]? = some o → ∀ e ∈ o.after, Region.binds .any e = true → l.getD e.on false = true) → (C.getD j 0).testBit i = true → l.getD i false = true := by
  intro j
  induction j using Nat.strongRecOn with
  | _ j ih =>
    intro hj hd hb
    obtain ⟨o, e, ho, he, hbi, hlt, hor⟩ := certB_spec hC hj hi hb
    have hl := hd o ho e he hbi
    rcases hor with rfl | hor
    · exact hl
    · exact ih e.on hlt (by omega) (fun o' ho' e' he' hb' => hcl e.on o' ho' hl e' he' hb') hor
theorem getD_set (l : Array Bool) (i j : Nat) (hi : i < l.size) : (l.setIfInBounds i true).getD j false = (j == i || l.getD j false) := by
  by_cases h : j = i
  · subst h
    simp [Array.getD_eq_getD_getElem?, hi]
  · simp [Array.getD_eq_getD_getElem?, Array.getElem?_setIfInBounds_ne (Ne.symm h), h]
theorem put_getD (a : Act) (d t : Tmp) (v : Value) (hd : d < a.tmps.size) : (a.put (some d) v).tmps.getD t undef = if t = d then v else a.tmps.getD t undef := by
  by_cases h : t = d
  · subst h
    simp [Act.put, Array.getD_eq_getD_getElem?, hd]
  · simp [Act.put, Array.getD_eq_getD_getElem?, Array.getElem?_setIfInBounds_ne (Ne.symm h), h]
theorem put_getD_ge (a : Act) (d t : Tmp) (v : Value) (hd : a.tmps.size ≤ d) : (a.put (some d) v).tmps.getD t undef = a.tmps.getD t undef := by
  simp [Act.put, Array.setIfInBounds, Nat.not_lt.2 hd]
theorem put_size (a : Act) (d : Option Tmp) (v : Value) : (a.put d v).tmps.size = a.tmps.size := by cases d <;> simp [Act.put]
theorem put_defers' (a : Act) (d : Option Tmp) (v : Value) : (a.put d v).defers = a.defers := by cases d <;> simp [Act.put]
theorem Inv.step {L : List Nat} {F : Tmp → SP} {C : Array Nat} {a0 : Act} {w0 : World} {l0 l : Array Bool} {a : Act} {w : World} (hfit : fitB ops C l0 L = true)
    (h : Inv ops L F a0 w0 l0 l a w) {i : Nat} {o : Oper} (hi : i ∈ L) (ho : ops[i]? = some o) (hr : ∀ e ∈ o.after, Region.binds .any e = true → l.getD e.on false = true)
    {v : Value} {w' : World} (hx : Ext w w') (hv : ∀ d, o.dst = some d → (F d).p v w') (hu : ∀ d, o.dst = some d → a.tmps.size ≤ d → v = undef) :
    Inv ops L F a0 w0 l0 (l.setIfInBounds i true) (a.put o.dst v) w' := by
  have hlt : i < ops.size := (Array.getElem?_eq_some_iff.1 ho).1
  have hli : i < l.size := by rw [h.lsize]; exact hlt
  have hone : ∀ j ∈ L, ∀ d, (ops[j]?).bind (·.dst) = some d → o.dst = some d → j = i := by
    intro j hj d h1 h2
    simp only [fitB, Bool.and_eq_true] at hfit
    have hfit := hfit.2
    rw [List.all_eq_true] at hfit
    have hjlt : j < ops.size := by
      rcases Nat.lt_or_ge j ops.size with hh | hh
      · exact hh
      · simp [Array.getElem?_eq_none hh] at h1
    have h3 := hfit j (List.mem_range.2 hjlt)
    rw [List.all_eq_true] at h3
    have h4 := h3 i (List.mem_range.2 hlt)
    simp only [ho, Option.bind_some, h2, h1, Bool.or_eq_true, beq_iff_eq, Bool.not_eq_true', bne_iff_ne, ne_eq, not_true_eq_false, or_false] at h4
    rcases h4 with (h4 | h4) | h4
    · exact h4.symm
    · simp [hi] at h4
    · simp [hj] at h4
  refine ⟨h.ext.trans hx, by rw [put_size]; exact h.size, by rw [put_defers']; exact h.defers, by simp [h.lsize], ?_, ?_, ?_, ?_⟩
  · intro j oj hoj hlj e he hb
    rw [getD_set _ _ _ hli] at hlj ⊢
    by_cases hji : j = i
    · subst hji
      rw [ho] at hoj
      injection hoj with hoj
      subst hoj
      simp [hr e he hb]
    · simp only [beq_iff_eq, hji, Bool.or_eq_true, false_or] at hlj
      simp [h.closed j oj hoj hlj e he hb]
  · intro j hj
    rw [getD_set _ _ _ hli]
    have hji : j ≠ i := fun e => hj (e ▸ hi)
    simp [hji, h.out j hj]
  · intro j hj hlj t ht
    rw [getD_set _ _ _ hli] at hlj
    by_cases hd : o.dst = some t
    · have := hone j hj t ht hd
      subst this
      rw [hd]
      rcases Nat.lt_or_ge t a.tmps.size with hs | hs
      · rw [put_getD _ _ _ _ hs, if_pos rfl]
        exact hv t hd
      · rw [put_getD_ge _ _ _ _ hs, Array.getD_eq_getD_getElem?, Array.getElem?_eq_none hs, Option.getD_none, ← hu t hd hs]
        exact hv t hd
    · have hji : j ≠ i := by
        intro e
        subst e
        rw [ho, Option.bind_some] at ht
        exact hd ht
      simp only [beq_iff_eq, hji, Bool.or_eq_true, false_or] at hlj
      have hold := (F t).mono _ _ _ hx (h.new j hj hlj t ht)
      cases hdd : o.dst with
      | none => exact hold
      | some d =>
        have hne : t ≠ d := fun e => hd (by rw [hdd, e])
        rcases Nat.lt_or_ge d a.tmps.size with hs | hs
        · rw [put_getD _ _ _ _ hs, if_neg hne]; exact hold
        · rw [put_getD_ge _ _ _ _ hs]; exact hold
  · intro t ht
    have hne : o.dst ≠ some t := by
      intro e
      refine ht i hi ?_ (by rw [ho, Option.bind_some, e])
      rw [getD_set _ _ _ hli]
      simp
    have hold : a.tmps.getD t undef = a0.tmps.getD t undef := h.old t fun j hj hlj => ht j hj (by rw [getD_set _ _ _ hli, hlj]; simp)
    rw [← hold]
    cases hdd : o.dst with
    | none => rfl
    | some d =>
      have hne : t ≠ d := fun e => hne (by rw [hdd, e])
      rcases Nat.lt_or_ge d a.tmps.size with hs | hs
      · rw [put_getD _ _ _ _ hs, if_neg hne]
      · rw [put_getD_ge _ _ _ _ hs]
def depsB (ops : Array Oper) (l : Array Bool) (L : List Nat) : Bool :=
  L.all fun i => ((ops[i]?).map fun o => o.after.all fun e => !Region.binds .any e || l.getD e.on false || (L.contains e.on && decide (e.on < i))).getD true
def rangeB (ops : Array Oper) (n : Nat) : Bool := ops.all fun o => match o.dst with | some d => decide (d < n) | none => true
theorem mem_ready' {l : Array Bool} {j : Nat} (h : j ∈ Region.ready .any ops l) (hs : l.size = ops.size) :
    ∃ o, ops[j]? = some o ∧ l.getD j false = false ∧ ∀ e ∈ o.after, Region.binds .any e = true → l.getD e.on false = true := by
  obtain ⟨h1, o, h2, h3⟩ := mem_ready.1 h
  refine ⟨o, h2, ?_, h3⟩
  have hlt : j < ops.size := (Array.getElem?_eq_some_iff.1 h2).1
  rw [Array.getD_eq_getD_getElem?, Array.getElem?_eq_getElem (by omega), Option.getD_some] at h1 ⊢
  exact h1
def marked (l : Array Bool) : List Nat → Array Bool
  | [] => l
  | i :: L => marked (l.setIfInBounds i true) L
theorem marked_size (L : List Nat) : ∀ l : Array Bool, (marked l L).size = l.size := by
  induction L with
  | nil => intro l; rfl
  | cons i L ih => intro l; simp [marked, ih]
theorem marked_getD (L : List Nat) : ∀ (l : Array Bool), (∀ i ∈ L, i < l.size) → ∀ j, (marked l L).getD j false = (L.contains j || l.getD j false) := by
  induction L with
  | nil => intro l _ j; simp [marked]
  | cons i L ih =>
    intro l hl j
    have hi : i < l.size := hl i (by simp)
    rw [marked, ih _ (fun k hk => by simpa using hl k (by simp [hk])) j, getD_set _ _ _ hi]
    simp only [List.contains_cons]
    cases (j == i) <;> simp
theorem unlisted (l : Array Bool) (L : List Nat) : (∀ i ∈ L, l.getD i false = true) ∨ ∃ i ∈ L, l.getD i false = false ∧ ∀ j ∈ L, j < i → l.getD j false = true := by
  by_cases h : ∀ i ∈ L, l.getD i false = true
  · exact .inl h
  · right
    have h' : ∃ i, i ∈ L ∧ l.getD i false = false := by
      apply Classical.byContradiction
      intro hn
      refine h fun i hi => ?_
      cases hb : l.getD i false with
      | true => rfl
      | false => exact absurd ⟨i, hi, hb⟩ hn
    obtain ⟨i, ⟨hi, hb⟩, hmin⟩ := (show ∃ i, (i ∈ L ∧ l.getD i false = false) ∧ ∀ j, (j ∈ L ∧ l.getD j false = false) → i ≤ j from by
      obtain ⟨n, hn⟩ := h'
      induction n using Nat.strongRecOn with
      | _ n ih =>
        by_cases hm : ∃ m, m < n ∧ (m ∈ L ∧ l.getD m false = false)
        · obtain ⟨m, hlt, hp⟩ := hm
          exact ih m hlt hp
        · exact ⟨n, hn, fun m hp => Nat.le_of_not_lt fun hlt => hm ⟨m, hlt, hp⟩⟩)
    refine ⟨i, hi, hb, fun j hj hlt => ?_⟩
    cases hb' : l.getD j false with
    | true => rfl
    | false => have := hmin j ⟨hj, hb'⟩; omega
def left (l : Array Bool) (L : List Nat) : Nat := L.countP fun i => !l.getD i false
theorem countP_other (f : Nat → Bool) (i : Nat) : ∀ L : List Nat, i ∉ L → L.countP (fun j => !(j == i || f j)) = L.countP (fun j => !f j) := by
  intro L h
  apply List.countP_congr
  intro x hx
  have : x ≠ i := fun e => h (e ▸ hx)
  simp [this]
theorem countP_set (f : Nat → Bool) (i : Nat) (hb : f i = false) : ∀ L : List Nat, L.Nodup → i ∈ L → L.countP (fun j => !f j) = L.countP (fun j => !(j == i || f j)) + 1 := by
  intro L
  induction L with
  | nil => intro _ h; cases h
  | cons k L ih =>
    intro hnd hm
    have hnd' := List.nodup_cons.1 hnd
    rw [List.countP_cons, List.countP_cons]
    by_cases hk : k = i
    · subst hk
      rw [countP_other f k L hnd'.1, hb]
      simp
    · have hL : i ∈ L := by simpa [Ne.symm hk] using hm
      rw [ih hnd'.2 hL]
      have e : (k == i || f k) = f k := by simp [hk]
      rw [e]
      omega
theorem left_set (l : Array Bool) (i : Nat) (hi : i < l.size) (L : List Nat) (hnd : L.Nodup) (hL : i ∈ L) (hb : l.getD i false = false) : left l L = left (l.setIfInBounds i true) L + 1 := by
  unfold left
  rw [countP_set (fun j => l.getD j false) i hb L hnd hL]
  congr 1
  apply List.countP_congr
  intro x _
  rw [getD_set _ _ _ hi]
theorem wpAny_fuel_ready {l : Array Bool} {a : Act} {w : World} {n : Nat} (hne : Region.ready .any ops l ≠ []) (h : ∀ i ∈ Region.ready .any ops l, wpOp P ops Q i (wpAny P .any ops Q n (l.setIfInBounds i true)) a w) :
    wpAny P .any ops Q (n + 1) l a w := ⟨fun he => absurd he hne, h⟩
theorem wpAny_flow_aux {L : List Nat} {F : Tmp → SP} {C : Array Nat} {a0 : Act} {w0 : World} {l0 : Array Bool} (hC : certB ops C = true) (hfit : fitB ops C l0 L = true) (hdeps : depsB ops l0 L = true)
    (hrg : rangeB ops a0.tmps.size = true) (hnd : L.Nodup) (rest : Nat)
    (hop : ∀ i ∈ L, ∀ o, ops[i]? = some o → ∀ a w, Known ops C L F a0 w0 i a w → Does P ops Q F o a w)
    (hend : ∀ a w, Ends ops L F a0 w0 a w → wpAny P .any ops Q rest (marked l0 L) a w) :
    ∀ (m : Nat) (l : Array Bool) (a : Act) (w : World), left l L = m → Inv ops L F a0 w0 l0 l a w → wpAny P .any ops Q (m + rest) l a w := by
  have hLlt : ∀ i ∈ L, i < ops.size := by
    intro i hi
    simp only [fitB, Bool.and_eq_true, List.all_eq_true] at hfit
    have := hfit.1.1.2 i hi
    simp only [decide_eq_true_eq] at this
    exact this.1
  have hl0s : l0.size = ops.size := by
    simp only [fitB, Bool.and_eq_true, beq_iff_eq] at hfit
    exact hfit.1.1.1
  intro m
  induction m with
  | zero =>
    intro l a w hm h
    have hall : ∀ i ∈ L, l.getD i false = true := by
      intro i hi
      cases hb : l.getD i false with
      | true => rfl
      | false =>
        have := List.countP_eq_zero.1 hm i hi
        rw [hb] at this
        simp at this
    have hl : l = marked l0 L := by
      apply Array.ext
      · rw [marked_size, h.lsize, hl0s]
      · intro j h1 h2
        have hj := marked_getD L l0 (fun i hi => by rw [hl0s]; exact hLlt i hi) j
        have e1 : l.getD j false = l[j] := by rw [Array.getD_eq_getD_getElem?, Array.getElem?_eq_getElem h1, Option.getD_some]
        have e2 : (marked l0 L).getD j false = (marked l0 L)[j] := by rw [Array.getD_eq_getD_getElem?, Array.getElem?_eq_getElem h2, Option.getD_some]
        rw [← e1, ← e2, hj]
        by_cases hjL : j ∈ L
        · simp [hjL, hall j hjL]
        · simp [hjL, h.out j hjL]
    rw [Nat.zero_add, hl]
    refine hend a w ⟨h.ext, h.size, h.defers, fun j hj t ht => h.new j hj (hall j hj) t ht, fun t ht => h.old t fun j hj _ e => ?_⟩
    rw [List.all_eq_true] at ht
    have := ht j hj
    rw [e] at this
    simp at this
  | succ m ih =>
    intro l a w hm h
    have hun : ∃ i ∈ L, l.getD i false = false ∧ ∀ j ∈ L, j < i → l.getD j false = true := by
      rcases unlisted l L with h1 | h1
      · have : left l L = 0 := by
          unfold left
          rw [List.countP_eq_zero]
          intro i hi
          rw [h1 i hi]
          simp
        omega
      · exact h1
    have hready : ∀ i ∈ Region.ready .any ops l, i ∈ L := by
      intro i hi
      obtain ⟨o, ho, hb, hd⟩ := mem_ready' hi h.lsize
      apply Classical.byContradiction
      intro hnL
      obtain ⟨k, hk, hkb, _⟩ := hun
      have hilt : i < ops.size := (Array.getElem?_eq_some_iff.1 ho).1
      have hb0 : l0.getD i false = false := by rw [← h.out i hnL]; exact hb
      have hbit : (C.getD i 0).testBit k = true := by
        simp only [fitB, Bool.and_eq_true, List.all_eq_true] at hfit
        have h1 := hfit.1.2 i (List.mem_range.2 hilt)
        simp only [hb0, Bool.false_or, Bool.or_eq_true, List.contains_iff_mem, hnL, false_or, List.all_eq_true] at h1
        exact h1 k hk
      have := ahead_listed hC h.closed k (hLlt k hk) i hilt (fun o' ho' e he hbb => by rw [ho] at ho'; injection ho' with ho'; subst ho'; exact hd e he hbb) hbit
      rw [this] at hkb
      cases hkb
    have hne : Region.ready .any ops l ≠ [] := by
      obtain ⟨k, hk, hkb, hmin⟩ := hun
      have hklt := hLlt k hk
      have hmem : k ∈ Region.ready .any ops l := by
        refine mem_ready.2 ⟨?_, ops[k], Array.getElem?_eq_getElem hklt, fun e he hb => ?_⟩
        · have hkl : k < l.size := by rw [h.lsize]; exact hklt
          rw [Array.getD_eq_getD_getElem?, Array.getElem?_eq_getElem hkl, Option.getD_some] at hkb ⊢
          exact hkb
        · simp only [depsB, List.all_eq_true] at hdeps
          have h1 := hdeps k hk
          rw [Array.getElem?_eq_getElem hklt] at h1
          simp only [Option.map_some, Option.getD_some, Array.all_eq_true_iff_forall_mem] at h1
          have h2 := h1 e he
          simp only [hb, Bool.not_true, Bool.false_or, Bool.or_eq_true, Bool.and_eq_true, List.contains_iff_mem, decide_eq_true_eq] at h2
          rcases h2 with h2 | ⟨h2, h3⟩
          · by_cases hel : e.on ∈ L
            · have helt := hLlt e.on hel
              simp only [fitB, Bool.and_eq_true, List.all_eq_true] at hfit
              have h4 := hfit.1.1.2 e.on hel
              simp [h2] at h4
            · rw [h.out e.on hel]; exact h2
          · exact hmin e.on h2 h3
      intro hnil
      rw [hnil] at hmem
      cases hmem
    rw [show m + 1 + rest = (m + rest) + 1 from by omega]
    refine wpAny_fuel_ready hne fun i hi => ?_
    have hiL := hready i hi
    obtain ⟨o, ho, hb, hd⟩ := mem_ready' hi h.lsize
    have hilt : i < ops.size := (Array.getElem?_eq_some_iff.1 ho).1
    have hleft : left (l.setIfInBounds i true) L = m := by
      have h1 := left_set l i (by rw [h.lsize]; exact hilt) L hnd hiL hb
      omega
    have hdstlt : ∀ d, o.dst = some d → d < a0.tmps.size := by
      intro d hd'
      simp only [rangeB, Array.all_eq_true_iff_forall_mem] at hrg
      have := hrg o (Array.mem_of_getElem? ho)
      rw [hd'] at this
      simpa using this
    have hknown : Known ops C L F a0 w0 i a w := by
      refine ⟨h.ext, h.size, fun t ht => ?_, fun t ht => ?_⟩
      · simp only [depB, List.any_eq_true, Bool.and_eq_true, beq_iff_eq] at ht
        obtain ⟨j, hj, hbit, hdst⟩ := ht
        exact h.new j hj (ahead_listed hC h.closed j (hLlt j hj) i hilt (fun o' ho' e he hbb => by rw [ho] at ho'; injection ho' with ho'; subst ho'; exact hd e he hbb) hbit) t hdst
      · refine h.old t fun j hj hlj hdst => ?_
        simp only [oldB, List.all_eq_true] at ht
        have h1 := ht j hj
        simp only [hdst, bne_self_eq_false, Bool.false_or, Bool.or_eq_true, beq_iff_eq] at h1
        rcases h1 with rfl | h1
        · rw [hb] at hlj; cases hlj
        · have hjlt := hLlt j hj
          have := ahead_listed hC h.closed i hilt j hjlt (fun o' ho' e he hbb => h.closed j o' ho' hlj e he hbb) h1
          rw [hb] at this; cases this
    have hdoes := hop i hiL o ho a w hknown
    unfold wpOp
    rw [ho]
    unfold Does at hdoes
    show if Region.wanted o (yielded ops a.tmps) = true then _ else _
    split
    · rename_i hw
      rw [if_pos hw] at hdoes
      refine .inl (Oper.wp_mono (fun a' w' hk => ?_) hdoes)
      obtain ⟨v, rfl, hx, hv⟩ := hk
      exact ih _ _ _ hleft (h.step hfit hiL ho hd hx hv fun d hd' hge => absurd (hdstlt d hd') (Nat.not_lt.2 (h.size ▸ hge)))
    · rename_i hw
      rw [if_neg hw] at hdoes
      exact ih _ _ _ hleft (h.step hfit hiL ho hd (Ext.refl w) hdoes fun d hd' hge => rfl)
theorem wpAny_flow {L : List Nat} {F : Tmp → SP} {C : Array Nat} {a0 : Act} {w0 : World} {l0 : Array Bool} (hC : certB ops C = true) (hcl : closedB ops l0 = true) (hfit : fitB ops C l0 L = true) (hdeps : depsB ops l0 L = true)
    (hrg : rangeB ops a0.tmps.size = true) (hnd : L.Nodup) (rest : Nat)
    (hop : ∀ i ∈ L, ∀ o, ops[i]? = some o → ∀ a w, Known ops C L F a0 w0 i a w → Does P ops Q F o a w)
    (hend : ∀ a w, Ends ops L F a0 w0 a w → wpAny P .any ops Q rest (marked l0 L) a w) : wpAny P .any ops Q (L.length + rest) l0 a0 w0 := by
  have hl0 : ∀ i ∈ L, l0.getD i false = false := by
    intro i hi
    simp only [fitB, Bool.and_eq_true, List.all_eq_true] at hfit
    have := hfit.1.1.2 i hi
    simp only [Bool.not_eq_true'] at this
    exact this.2
  have hl0s : l0.size = ops.size := by
    simp only [fitB, Bool.and_eq_true, beq_iff_eq] at hfit
    exact hfit.1.1.1
  have hleft : left l0 L = L.length := by
    unfold left
    rw [List.countP_eq_length]
    intro i hi
    rw [hl0 i hi]; rfl
  refine wpAny_flow_aux hC hfit hdeps hrg hnd rest hop hend L.length l0 a0 w0 hleft ⟨Ext.refl _, rfl, rfl, hl0s, ?_, fun _ _ => rfl, fun j hj hlj => ?_, fun _ _ => rfl⟩
  · intro j o ho hlj e he hb
    have hjlt : j < ops.size := (Array.getElem?_eq_some_iff.1 ho).1
    simp only [closedB, List.all_eq_true] at hcl
    have h1 := hcl j (List.mem_range.2 hjlt)
    rw [ho] at h1
    simp only [hlj, Bool.not_true, Bool.false_or, Option.map_some, Option.getD_some, Array.all_eq_true_iff_forall_mem, Bool.or_eq_true, Bool.not_eq_true'] at h1
    rcases h1 e he with h2 | h2
    · rw [hb] at h2; cases h2
    · exact h2
  · rw [hl0 j hj] at hlj; cases hlj
def tailB (ops : Array Oper) (C : Array Nat) (m : Nat) : Bool :=
  (List.range ops.size).all fun j => decide (j < m) || ((List.range j).all fun i => (C.getD j 0).testBit i) && ((ops[j]?).map fun o => o.after.all fun e => !Region.binds .any e || decide (e.on < j)).getD true
def upto (n k : Nat) : Array Bool := ((List.range n).map fun i => decide (i < k)).toArray
theorem upto_getD (n k i : Nat) : (upto n k).getD i false = (decide (i < n) && decide (i < k)) := by
  unfold upto
  rw [Array.getD_eq_getD_getElem?, List.getElem?_toArray, List.getElem?_map]
  by_cases h : i < n
  · simp [h]
  · simp [h]
theorem upto_size (n k : Nat) : (upto n k).size = n := by simp [upto]
theorem upto_set (n k : Nat) (hk : k < n) : (upto n k).setIfInBounds k true = upto n (k + 1) := by
  apply Array.ext
  · simp [upto_size]
  · intro i h1 h2
    have e1 : ((upto n k).setIfInBounds k true).getD i false = ((upto n k).setIfInBounds k true)[i] := by rw [Array.getD_eq_getD_getElem?, Array.getElem?_eq_getElem h1, Option.getD_some]
    have e2 : (upto n (k + 1)).getD i false = (upto n (k + 1))[i] := by rw [Array.getD_eq_getD_getElem?, Array.getElem?_eq_getElem h2, Option.getD_some]
    rw [← e1, ← e2, getD_set _ _ _ (by rw [upto_size]; exact hk), upto_getD, upto_getD]
    by_cases h : i = k
    · subst h; simp [hk]
    · have : (i < k) = (i < k + 1) := by apply propext; omega
      simp [h, this]
theorem marked_range (n m : Nat) (hm : m ≤ n) : marked (Array.replicate n false) (List.range m) = upto n m := by
  apply Array.ext
  · simp [marked_size, upto_size]
  · intro i h1 h2
    have e1 : (marked (Array.replicate n false) (List.range m)).getD i false = (marked (Array.replicate n false) (List.range m))[i] := by rw [Array.getD_eq_getD_getElem?, Array.getElem?_eq_getElem h1, Option.getD_some]
    have e2 : (upto n m).getD i false = (upto n m)[i] := by rw [Array.getD_eq_getD_getElem?, Array.getElem?_eq_getElem h2, Option.getD_some]
    rw [upto_size] at h2
    rw [← e1, ← e2, marked_getD _ _ (fun j hj => by have := List.mem_range.1 hj; simp; omega), upto_getD]
    have hr : (Array.replicate n false).getD i false = false := by
      rw [Array.getD_eq_getD_getElem?, Array.getElem?_replicate]
      split <;> rfl
    rw [hr]
    by_cases h : i < m
    · simp [h, h2]
    · simp [h]
theorem wpAny_tail {C : Array Nat} (hC : certB ops C = true) {m : Nat} (ht : tailB ops C m = true) : ∀ (d k : Nat), k + d = ops.size → m ≤ k → ∀ (a : Act) (w : World),
    wpList P ops Q (ops.toList.drop k) a w → wpAny P .any ops Q d (upto ops.size k) a w := by
  intro d
  induction d with
  | zero =>
    intro k hk hmk a w h
    rw [List.drop_of_length_le (by simp; omega)] at h
    refine ⟨?_, h⟩
    unfold Region.ready
    rw [List.filter_eq_nil_iff]
    intro i hi
    have hilt := List.mem_range.1 hi
    have h1 := upto_getD ops.size k i
    have hs : i < (upto ops.size k).size := by rw [upto_size]; exact hilt
    have h2 : (upto ops.size k).getD i true = true := by
      rw [Array.getD_eq_getD_getElem?, Array.getElem?_eq_getElem hs, Option.getD_some] at h1 ⊢
      rw [h1]
      simp; omega
    simp [h2]
  | succ d ih =>
    intro k hk hmk a w h
    have hklt : k < ops.size := by omega
    have htk : ∀ j, m ≤ j → (hj : j < ops.size) → (∀ i, i < j → (C.getD j 0).testBit i = true) ∧ ∀ e ∈ (ops[j]).after, Region.binds .any e = true → e.on < j := by
      intro j hmj hj
      simp only [tailB, List.all_eq_true] at ht
      have h1 := ht j (List.mem_range.2 hj)
      rw [Array.getElem?_eq_getElem hj] at h1
      simp only [Nat.not_lt.2 hmj, decide_false, Bool.false_or, Bool.and_eq_true, List.all_eq_true, List.mem_range, Option.map_some, Option.getD_some, Array.all_eq_true_iff_forall_mem, Bool.or_eq_true, Bool.not_eq_true', decide_eq_true_eq] at h1
      refine ⟨h1.1, fun e he hb => ?_⟩
      rcases h1.2 e he with h2 | h2
      · rw [hb] at h2; cases h2
      · exact h2
    have hready : Region.ready .any ops (upto ops.size k) = [k] := by
      have hmem : ∀ j, j ∈ Region.ready .any ops (upto ops.size k) ↔ j = k := by
        intro j
        constructor
        · intro hj
          obtain ⟨o, ho, hb, hd⟩ := mem_ready' hj (upto_size _ _)
          have hjlt : j < ops.size := (Array.getElem?_eq_some_iff.1 ho).1
          rw [upto_getD] at hb
          have hkj : k ≤ j := by
            rcases Nat.lt_or_ge j k with h' | h'
            · simp [hjlt, h'] at hb
            · exact h'
          rcases Nat.lt_or_ge k j with hlt | hge
          · exfalso
            have hb1 := (htk j (by omega) hjlt).1 k hlt
            obtain ⟨o', e, ho', he, hbi, hlt', hor⟩ := certB_spec hC hjlt hklt hb1
            rw [ho] at ho'
            injection ho' with ho'
            subst ho'
            have hl := hd e he hbi
            rw [upto_getD] at hl
            simp only [Bool.and_eq_true, decide_eq_true_eq] at hl
            rcases hor with h3 | h3
            · omega
            · -- an operation that is listed has nothing of the tail ahead of it
              have key : ∀ q, q < k → ¬ (C.getD q 0).testBit k = true := by
                intro q
                induction q using Nat.strongRecOn with
                | _ q ihq =>
                  intro hq hbit
                  obtain ⟨_, e', _, _, _, hlt2, hor2⟩ := certB_spec hC (by omega) hklt hbit
                  rcases hor2 with h4 | h4
                  · omega
                  · exact ihq e'.on hlt2 (by omega) h4
              exact key e.on hl.2 h3
          · omega
        · rintro rfl
          refine mem_ready.2 ⟨?_, ops[j], Array.getElem?_eq_getElem hklt, fun e he hb => ?_⟩
          · have h1 := upto_getD ops.size j j
            have hs : j < (upto ops.size j).size := by rw [upto_size]; exact hklt
            rw [Array.getD_eq_getD_getElem?, Array.getElem?_eq_getElem hs, Option.getD_some] at h1 ⊢
            rw [h1]; simp
          · have := (htk j hmk hklt).2 e he hb
            rw [upto_getD]
            simp; omega
      have hnd : (Region.ready .any ops (upto ops.size k)).Nodup := List.Pairwise.filter _ List.nodup_range
      generalize Region.ready .any ops (upto ops.size k) = l at hmem hnd
      match l, hmem, hnd with
      | [], hmem, _ => have := (hmem k).2 rfl; cases this
      | [x], hmem, _ => rw [(hmem x).1 (by simp)]
      | x :: y :: r, hmem, hnd =>
        have h1 := (hmem x).1 (by simp)
        have h2 := (hmem y).1 (by simp)
        rw [h1, h2] at hnd
        simp at hnd
    refine wpAny_fuel_ready (by rw [hready]; simp) fun i hi => ?_
    rw [hready] at hi
    obtain rfl : i = k := by simpa using hi
    rw [upto_set _ _ hklt]
    rw [List.drop_eq_getElem_cons (by simpa using hklt)] at h
    unfold wpOp
    rw [Array.getElem?_eq_getElem hklt]
    have h' : wpList P ops Q (ops[i] :: ops.toList.drop (i + 1)) a w := by simpa using h
    unfold wpList at h'
    show if Region.wanted ops[i] (yielded ops a.tmps) = true then _ else _
    split
    · rename_i hw
      rw [if_pos hw] at h'
      rcases h' with h' | h'
      · exact .inl (Oper.wp_mono (fun a' w' hk' => ih (i + 1) (by omega) (by omega) a' w' hk') h')
      · exact .inr h'
    · rename_i hw
      rw [if_neg hw] at h'
      exact ih (i + 1) (by omega) (by omega) _ _ h'
theorem wp_region_flow_tail {id : Nat} {F : Tmp → SP} (C : Array Nat) (m : Nat) {a0 : Act} {w0 : World} (hm : P.follows .mixedOrders = true) (hmn : m ≤ ops.size) (hC : certB ops C = true) (ht : tailB ops C m = true)
    (hfit : fitB ops C (Array.replicate ops.size false) (List.range m) = true) (hdeps : depsB ops (Array.replicate ops.size false) (List.range m) = true) (hrg : rangeB ops a0.tmps.size = true)
    (hop : ∀ i, i < m → ∀ o, ops[i]? = some o → ∀ a w, Known ops C (List.range m) F a0 { w0 with drawn := w0.drawn + 1 } i a w → Does P ops Q F o a w)
    (hend : ∀ a w, Ends ops (List.range m) F a0 { w0 with drawn := w0.drawn + 1 } a w → wpList P ops Q (ops.toList.drop m) a w) : (Code.region id ops true).wp P Q a0 w0 := by
  refine wp_region_any hm ?_
  have h := wpAny_flow (P := P) (Q := Q) (ops := ops) (L := List.range m) (F := F) (C := C) (a0 := a0) (w0 := { w0 with drawn := w0.drawn + 1 }) (l0 := Array.replicate ops.size false) hC ?_ hfit hdeps hrg List.nodup_range (ops.size - m)
    (fun i hi o ho a w hk => hop i (List.mem_range.1 hi) o ho a w hk) ?_
  · simpa [show m + (ops.size - m) = ops.size from by omega] using h
  · simp only [closedB, List.all_eq_true]
    intro j _
    have : (Array.replicate ops.size false).getD j false = false := by
      rw [Array.getD_eq_getD_getElem?, Array.getElem?_replicate]
      split <;> rfl
    rw [this]; rfl
  · intro a w he
    rw [marked_range _ _ hmn]
    exact wpAny_tail hC ht _ m (by omega) (Nat.le_refl _) a w (hend a w he)
def fillL (ds : List Nat) (us : Nat → Value) : Nat → List Value → List Value
  | _, [] => []
  | i, v :: l => (if ds.contains i then us i else v) :: fillL ds us (i + 1) l
theorem fillL_length (ds : List Nat) (us : Nat → Value) : ∀ (l : List Value) (i : Nat), (fillL ds us i l).length = l.length
  | [], _ => rfl
  | _ :: l, i => by simp [fillL, fillL_length ds us l (i + 1)]
theorem fillL_get (ds : List Nat) (us : Nat → Value) : ∀ (l : List Value) (i j : Nat), (fillL ds us i l)[j]? = (l[j]?).map fun v => if ds.contains (i + j) then us (i + j) else v
  | [], _, _ => by simp [fillL]
  | v :: l, i, 0 => by simp [fillL]
  | v :: l, i, j + 1 => by
    have := fillL_get ds us l (i + 1) j
    simp only [fillL, List.getElem?_cons_succ, this, Nat.add_assoc, Nat.add_comm 1 j]
theorem Ends.out {L : List Nat} {F : Tmp → SP} {a0 : Act} {w0 : World} {a : Act} {w : World} (h : Ends ops L F a0 w0 a w) (ds : List Nat) (hd : (L.filterMap fun j => (ops[j]?).bind (·.dst)) = ds) :
    ∃ us : Nat → Value, a = ⟨(fillL ds us 0 a0.tmps.toList).toArray, a0.defers⟩ ∧ ∀ t ∈ ds, (F t).p (us t) w := by
  refine ⟨fun t => a.tmps.getD t undef, ?_, fun t ht => ?_⟩
  · obtain ⟨tmps, defers⟩ := a
    have h1 := h.size
    have h2 := h.defers
    have h3 := h.old
    simp only at h1 h2 h3
    subst h2
    congr 1
    apply Array.ext
    · simp [fillL_length, h1]
    · intro j j1 j2
      have e : (fillL ds (fun t => tmps.getD t undef) 0 a0.tmps.toList)[j]? = some tmps[j] := by
        rw [fillL_get, Nat.zero_add]
        have hj : j < a0.tmps.size := by rw [← h1]; exact j1
        rw [Array.getElem?_toList, Array.getElem?_eq_getElem hj, Option.map_some]
        have e1 : tmps.getD j undef = tmps[j] := by rw [Array.getD_eq_getD_getElem?, Array.getElem?_eq_getElem j1, Option.getD_some]
        by_cases hc : ds.contains j = true
        · rw [if_pos hc, e1]
        · rw [if_neg hc]
          have h4 := h3 j (by
            rw [List.all_eq_true]
            intro q hq
            rw [bne_iff_ne]
            intro he
            apply hc
            rw [List.contains_iff_mem, ← hd]
            exact List.mem_filterMap.2 ⟨q, hq, he⟩)
          rw [e1, Array.getD_eq_getD_getElem?, Array.getElem?_eq_getElem hj, Option.getD_some] at h4
          rw [h4]
      rw [List.getElem_toArray]
      have := (List.getElem?_eq_some_iff.1 e).2
      exact this.symm
  · rw [← hd] at ht
    obtain ⟨j, hj, hjd⟩ := List.mem_filterMap.1 ht
    exact h.new j hj t hjd
def OpsDo (P : Program) (ops : Array Oper) (Q : Exit → Act → World → Prop) (C : Array Nat) (L : List Nat) (F : Tmp → SP) (a0 : Act) (w0 : World) : Nat → List Oper → Prop
  | _, [] => True
  | i, o :: l => (∀ a w, Known ops C L F a0 w0 i a w → Does P ops Q F o a w) ∧ OpsDo P ops Q C L F a0 w0 (i + 1) l
theorem OpsDo.at_ {C : Array Nat} {L : List Nat} {F : Tmp → SP} {a0 : Act} {w0 : World} : ∀ (l : List Oper) (k : Nat), OpsDo P ops Q C L F a0 w0 k l → ∀ i o, l[i]? = some o → ∀ a w, Known ops C L F a0 w0 (k + i) a w → Does P ops Q F o a w
  | [], _, _, i, o, h => by simp at h
  | x :: l, k, h, 0, o, ho => by
    intro a w hk
    obtain rfl : x = o := by simpa using ho
    exact h.1 a w hk
  | x :: l, k, h, i + 1, o, ho => by
    intro a w hk
    exact OpsDo.at_ l (k + 1) h.2 i o (by simpa using ho) a w (by rw [Nat.add_right_comm]; exact hk)
def flowB (ops : Array Oper) (m n : Nat) : Bool :=
  decide (m ≤ ops.size) && certB ops (Region.before ops) && tailB ops (Region.before ops) m && fitB ops (Region.before ops) (Array.replicate ops.size false) (List.range m) && depsB ops (Array.replicate ops.size false) (List.range m) && rangeB ops n
theorem wp_region_flow_l {id : Nat} (F : Tmp → SP) (m : Nat) {a0 : Act} {w0 : World} (hm : P.follows .mixedOrders = true) (n : Nat) (hn : a0.tmps.size = n) (hB : flowB ops m n = true)
    (hop : OpsDo P ops Q (Region.before ops) (List.range m) F a0 w0.drew 0 (ops.toList.take m))
    (hend : ∀ a w, Ends ops (List.range m) F a0 w0.drew a w → wpList P ops Q (ops.toList.drop m) a w) : (Code.region id ops true).wp P Q a0 w0 := by
  simp only [flowB, Bool.and_eq_true, decide_eq_true_eq] at hB
  obtain ⟨⟨⟨⟨⟨h1, h2⟩, h3⟩, h4⟩, h5⟩, h6⟩ := hB
  exact wp_region_flow_tail (Region.before ops) m hm h1 h2 h3 h4 h5 (by rw [hn]; exact h6) (fun i hi o ho a w hk => OpsDo.at_ (ops.toList.take m) 0 hop i o (by rw [List.getElem?_take]; simpa [hi] using ho) a w (by rw [Nat.zero_add]; exact hk)) hend
theorem does_intro {F : Tmp → SP} {o : Oper} {a : Act} {w : World} (hg : Region.wanted o (yielded ops a.tmps) = true)
    (h : ∀ K : Act → World → Prop, (∀ v w', Ext w w' → (∀ d, o.dst = some d → (F d).p v w') → K (a.put o.dst v) w') → o.wp P a w K Q) : Does P ops Q F o a w := by
  unfold Does
  rw [if_pos hg]
  exact h _ fun v w' h1 h2 => ⟨v, rfl, h1, h2⟩
theorem does_skip {F : Tmp → SP} {o : Oper} {a : Act} {w : World} (hg : Region.wanted o (yielded ops a.tmps) = false) (h : ∀ d, o.dst = some d → (F d).p undef w) : Does P ops Q F o a w := by
  unfold Does
  rw [if_neg (by rw [hg]; exact Bool.false_ne_true)]
  exact h
end Flow
end Go.Proofs.Ytgkgedjmnbjalaa
namespace Go.Proofs.Ytgkgedjmnbjalaa
set_option maxRecDepth 100000 in
theorem ord_list : ∃ l : List Char, Try.prog.initOrder = String.ofList l ∧ (behindMainWord (wordsSigns l)).head? = some "cut".toList := ⟨_, rfl, by kernel_rfl⟩
theorem ord_words : ∃ r, behindMainWord (wordsSigns Try.prog.initOrder.toList) = "cut".toList :: r := by
  obtain ⟨l, h, hl⟩ := ord_list
  rw [h, String.toList_ofList]
  generalize behindMainWord (wordsSigns l) = ws at hl
  cases ws with
  | nil => cases hl
  | cons a r => cases hl; exact ⟨r, rfl⟩
theorem lays_no : Try.prog.laysLater = false := by kernel_rfl
theorem bears_no : Try.prog.bearsReflect = false := by kernel_rfl
theorem door_yes : Try.prog.doorFits [] = true := by kernel_rfl
theorem strip1 (r : List (List Char)) : (stripLifts liftWords ("cut".toList :: r)).1 = [] := by kernel_rfl
theorem strip2 (r : List (List Char)) : (stripLifts liftWords ("cut".toList :: r)).2.head? = some "cut".toList := by kernel_rfl
theorem may_of (P : Program) (r : List (List Char)) (h : behindMainWord (wordsSigns P.initOrder.toList) = "cut".toList :: r) (h1 : P.laysLater = false) (h2 : P.bearsReflect = false) (h3 : P.doorFits [] = true) : P.mayEnter = true := by
  unfold Program.mayEnter
  rw [h]
  show (_ || _ || _) = true
  rw [Bool.or_eq_true]
  right
  rw [strip1, strip2, h1, h2, h3]
  simp
theorem lifts_of (P : Program) (r : List (List Char)) (h : behindMainWord (wordsSigns P.initOrder.toList) = "cut".toList :: r) : P.headLifts = [] := by
  unfold Program.headLifts
  simp only [h, strip1, strip2]
  simp
theorem final_of (P : Program) (r : List (List Char)) (h : behindMainWord (wordsSigns P.initOrder.toList) = "cut".toList :: r) : P.liftsFinal = false := by
  unfold Program.liftsFinal
  rw [lifts_of P r h, h]
  simp
theorem make_of (P : Program) (r : List (List Char)) (h : behindMainWord (wordsSigns P.initOrder.toList) = "cut".toList :: r) : P.make = some .cut := by
  unfold Program.make
  rw [h]
  kernel_rfl
theorem may_enter : Try.prog.mayEnter = true := by
  obtain ⟨r, h⟩ := ord_words
  exact may_of _ r h lays_no bears_no door_yes
theorem lifts_final : Try.prog.liftsFinal = false := by
  obtain ⟨r, h⟩ := ord_words
  exact final_of _ r h
theorem make_cut : Try.prog.make = some .cut := by
  obtain ⟨r, h⟩ := ord_words
  exact make_of _ r h
theorem joined_of {p : Program} {f : FuncId} {fn : Func} {s : ChangeSpec} {c : OpenClaim} (h0 : (c.wf (OpenSpec.ofChange s) && laidOutB p && mapsRowed p &&
  fn.params.all (p.readableRec ·) && namedTie p c.named s.vars &&
  (c.stops == []) && (p.stops == []) && (c.knobs == []) && (p.stopKnobs == [])) = true) (h1 : (c.inPlace == p.inPlace f) = true) (h2 : (c.unfollowed == p.unfollowed f) = true) (h3 : (c.recurses == p.recurses f) = true) (h4 : (c.named == p.varsNamed f) = true)
  (h5 : ((c.maps == (fn.params.toList ++ s.plain.varTypes p).any (p.mapsRec ·)) && (c.ifaces == (fn.params.toList ++ s.plain.varTypes p).any (p.ifacesRec ·)) && (c.mapsOut == p.mapsAmong fn.resultTypes.toList)) = true)
  (h6 : ((c.loops == (fn.params.toList ++ s.plain.varTypes p).any (p.loopsFrom ·)) && (c.wideKeys == (fn.params.toList ++ s.plain.varTypes p ++ fn.resultTypes.toList).any (p.wideKeysFrom ·))) = true)
  (h7 : (s.vars.all (p.varReadable ·) && fn.resultTypes.all (fun t => p.readableRec t && decide (t < p.types.size)) && (c.ifacesOut == fn.resultTypes.toList.any (p.ifacesRec ·)) && (c.loopsOut == fn.resultTypes.toList.any (p.loopsFrom ·)) && (c.plainKeys == p.plainKeys) && c.shortTexts.isNone && p.stopsHeard) = true)
  (h8 : p.mayEnter = true) (h9 : (c.lifted == p.liftsFinal) = true) (h10 : (p.make == some c.make) = true)
  (h11 : ((c.kinds == (if c.domain.isEmpty then [] else fn.params.toList.map fun t => match p.underlying t with | some (.int k) => some k | _ => none)) && (c.pinned == c.pinnedBy)) = true)
  (h12 : ((c.veiled == (fn.params.toList ++ s.plain.varTypes p ++ fn.resultTypes.toList).any (p.veiledRec ·)) && c.veiledFits p fn.params.toList (fn.params.toList ++ s.plain.varTypes p ++ fn.resultTypes.toList)) = true) : joinedFacts p f fn s c = true := by
  simp only [Bool.and_eq_true] at *
  unfold joinedFacts
  simp only [Bool.and_eq_true]
  obtain ⟨⟨⟨⟨⟨⟨⟨⟨a1, a2⟩, a3⟩, a4⟩, a5⟩, a6⟩, a7⟩, a8⟩, a9⟩ := h0
  obtain ⟨⟨b1, b2⟩, b3⟩ := h5
  obtain ⟨c1, c2⟩ := h6
  obtain ⟨⟨⟨⟨⟨⟨d1, d2⟩, d3⟩, d4⟩, d5⟩, d6⟩, d7⟩ := h7
  obtain ⟨e1, e2⟩ := h11
  obtain ⟨f1, f2⟩ := h12
  exact ⟨⟨⟨⟨⟨⟨⟨⟨⟨⟨⟨⟨⟨⟨⟨⟨⟨⟨⟨⟨⟨⟨⟨⟨⟨⟨⟨⟨⟨⟨⟨a1, a2⟩, a3⟩, a4⟩, a5⟩, a6⟩, a7⟩, a8⟩, a9⟩, h1⟩, h2⟩, h3⟩, h4⟩, b1⟩, b2⟩, b3⟩, c1⟩, c2⟩, d1⟩, d2⟩, d3⟩, d4⟩, d5⟩, d6⟩, d7⟩, h8⟩, h9⟩, h10⟩, e1⟩, e2⟩, f1⟩, f2⟩
end Go.Proofs.Ytgkgedjmnbjalaa
namespace Go.Proofs.Ytgkgedjmnbjalaa
open Go.RowKit
namespace Flow
variable {P : Program} {ops : Array Oper} {Q : Exit → Act → World → Prop}
theorem opIn_of_wp {l n : Nat} {o : Oper} (hd : ∀ c, o.op ≠ .defer c) {a : Act} {w : World} {K : Act → World → Prop} (h : o.wp P a w K Q) : o.wpIn (Fence.wide.inRound l) n P a w K Q := by
  refine ⟨fun _ _ => trivial, ?_⟩
  rw [Oper.semAt_plain (Fence.wide.inRound l) a.eval o hd]
  unfold Oper.wp at h
  generalize (execOp a.eval o).run P w = r at *
  cases r with
  | ok x w' =>
    cases x with
    | value v => exact h
    | skip => exact h
    | defer d => exact h
    | enter f args => exact ⟨fun h' => (by cases h'), CallsIn.inRound l (callsIn_wide.2 h)⟩
    | row row args => exact ⟨fun h' => (by cases h'), fun c cs _ => by obtain ⟨v, w2, r, s⟩ := h c cs; exact ⟨v, w2, r, stepsIn_wide.2 s⟩⟩
    | _ => exact h.elim
  | halt x w' => cases x <;> first | exact h | exact h.elim
def plainB (ops : Array Oper) : Bool := ops.all fun o => match o.op with | .defer _ => false | _ => true
theorem plain_of {i : Nat} {o : Oper} (h : plainB ops = true) (ho : ops[i]? = some o) : ∀ c, o.op ≠ .defer c := by
  intro c hc
  obtain ⟨hi, rfl⟩ := Array.getElem?_eq_some_iff.1 ho
  have := (Array.all_eq_true.1 h) i hi
  rw [hc] at this
  cases this
theorem anyIn_of_any {l n : Nat} (hp : plainB ops = true) (hQ : ¬ LetsOut Q) : ∀ (fuel : Nat) (listed : Array Bool) (a : Act) (w : World), wpAny P .any ops Q fuel listed a w → wpAnyIn (Fence.wide.inRound l) n P .any ops Q fuel listed a w
  | 0, listed, a, w, h => h
  | fuel + 1, listed, a, w, h => by
    refine ⟨h.1, fun i hi => ?_⟩
    have h2 := h.2 i hi
    unfold wpOp at h2
    unfold wpOpIn
    cases ho : ops[i]? with
    | none => simp only [ho] at h2 ⊢; exact anyIn_of_any hp hQ fuel _ _ _ h2
    | some o =>
      simp only [ho] at h2 ⊢
      by_cases hw : Region.wanted o (yielded ops a.tmps) = true
      · rw [if_pos hw] at h2 ⊢
        rcases h2 with h2 | h2
        · exact Oper.wpIn_mono (fun a' w' h3 => anyIn_of_any hp hQ fuel _ _ _ h3) (opIn_of_wp (plain_of hp ho) h2)
        · exact absurd h2.2 hQ
      · rw [if_neg hw] at h2 ⊢
        exact ⟨fun _ _ => trivial, anyIn_of_any hp hQ fuel _ _ _ h2⟩
theorem listIn_of_list {l n : Nat} (hQ : ¬ LetsOut Q) : ∀ (os : List Oper) (_ : (os.all fun o => match o.op with | .defer _ => false | _ => true) = true) (a : Act) (w : World), wpList P ops Q os a w → wpListIn (Fence.wide.inRound l) n P ops Q os a w
  | [], _, a, w, h => h
  | o :: os, hp, a, w, h => by
    simp only [List.all_cons, Bool.and_eq_true] at hp
    have hd : ∀ c, o.op ≠ .defer c := by
      intro c hc
      have := hp.1
      rw [hc] at this
      cases this
    unfold wpList at h
    unfold wpListIn
    by_cases hw : Region.wanted o (yielded ops a.tmps) = true
    · rw [if_pos hw] at h ⊢
      rcases h with h | h
      · exact Oper.wpIn_mono (fun a' w' h3 => listIn_of_list hQ os hp.2 _ _ h3) (opIn_of_wp hd h)
      · exact absurd h.2 hQ
    · rw [if_neg hw] at h ⊢
      exact ⟨fun _ _ => trivial, listIn_of_list hQ os hp.2 _ _ h⟩
theorem wpAny_flow_tail (C : Array Nat) (m : Nat) {F : Tmp → SP} {a0 : Act} {w0 : World} (hmn : m ≤ ops.size) (hC : certB ops C = true) (ht : tailB ops C m = true)
    (hfit : fitB ops C (Array.replicate ops.size false) (List.range m) = true) (hdeps : depsB ops (Array.replicate ops.size false) (List.range m) = true) (hrg : rangeB ops a0.tmps.size = true)
    (hop : ∀ i, i < m → ∀ o, ops[i]? = some o → ∀ a w, Known ops C (List.range m) F a0 { w0 with drawn := w0.drawn + 1 } i a w → Does P ops Q F o a w)
    (hend : ∀ a w, Ends ops (List.range m) F a0 { w0 with drawn := w0.drawn + 1 } a w → wpList P ops Q (ops.toList.drop m) a w) : wpAny P .any ops Q ops.size (Array.replicate ops.size false) a0 { w0 with drawn := w0.drawn + 1 } := by
  have h := wpAny_flow (P := P) (Q := Q) (ops := ops) (L := List.range m) (F := F) (C := C) (a0 := a0) (w0 := { w0 with drawn := w0.drawn + 1 }) (l0 := Array.replicate ops.size false) hC ?_ hfit hdeps hrg List.nodup_range (ops.size - m)
    (fun i hi o ho a w hk => hop i (List.mem_range.1 hi) o ho a w hk) ?_
  · simpa [show m + (ops.size - m) = ops.size from by omega] using h
  · simp only [closedB, List.all_eq_true]
    intro j _
    have : (Array.replicate ops.size false).getD j false = false := by
      rw [Array.getD_eq_getD_getElem?, Array.getElem?_replicate]
      split <;> rfl
    rw [this]; rfl
  · intro a w he
    rw [marked_range _ _ hmn]
    exact wpAny_tail hC ht _ m (by omega) (Nat.le_refl _) a w (hend a w he)
theorem wpIn_region_flow_l {l k : Nat} (hQ : ¬ LetsOut Q) {id : Nat} (F : Tmp → SP) (m : Nat) {a0 : Act} {w0 : World} (hm : P.follows .mixedOrders = true) (hp : plainB ops = true) (n : Nat) (hn : a0.tmps.size = n) (hB : flowB ops m n = true)
    (hop : OpsDo P ops Q (Region.before ops) (List.range m) F a0 w0.drew 0 (ops.toList.take m))
    (hend : ∀ a w, Ends ops (List.range m) F a0 w0.drew a w → wpList P ops Q (ops.toList.drop m) a w) : (Code.region id ops true).wpIn (Fence.wide.inRound l) k P Q a0 w0 := by
  simp only [flowB, Bool.and_eq_true, decide_eq_true_eq] at hB
  obtain ⟨⟨⟨⟨⟨h1, h2⟩, h3⟩, h4⟩, h5⟩, h6⟩ := hB
  exact wpIn_region_any hm (anyIn_of_any hp hQ _ _ _ _ (wpAny_flow_tail (Region.before ops) m h1 h2 h3 h4 h5 (by rw [hn]; exact h6) (fun i hi o ho a w hk => OpsDo.at_ (ops.toList.take m) 0 hop i o (by rw [List.getElem?_take]; simpa [hi] using ho) a w (by rw [Nat.zero_add]; exact hk)) hend))
end Flow
end Go.Proofs.Ytgkgedjmnbjalaa
set_option linter.unusedSimpArgs false
set_option linter.unusedVariables false
namespace Go.Proofs.Ytgkgedjmnbjalaa
open Go.RowKit
namespace FlowJ
open Flow (certB closedB fitB depB oldB depsB rangeB tailB flowB fillL marked left ahead_listed getD_set put_getD put_getD_ge put_size put_defers' mem_ready' marked_size marked_getD unlisted left_set wpAny_fuel_ready upto wpAny_tail marked_range fillL_length fillL_get countP_set countP_other upto_getD upto_size upto_set)
variable {P : Program} {ops : Array Oper} {Q : Exit → Act → World → Prop}
structure PairOK (ops : Array Oper) (C : Array Nat) (L : List Nat) (s x tx : Nat) (Y : List (Nat × Tmp)) (J : Value → Value → World → Prop) : Prop where
  xL : x ∈ L
  xd : (ops[x]?).bind (·.dst) = some tx
  xs : (C.getD s 0).testBit x = true
  y : ∀ p ∈ Y, p.1 ≠ x ∧ p.2 ≠ tx ∧ p.1 ∈ L ∧ (ops[p.1]?).bind (·.dst) = some p.2 ∧ (C.getD s 0).testBit p.1 = true
  mono : ∀ u u' w w', Ext w w' → J u u' w → J u u' w'
def Xt (C : Array Nat) (F : Tmp → SP) (G : Act → World → Prop) (J : Value → Value → World → Prop) (s x tx : Nat) (Y : List (Nat × Tmp)) (i : Nat) (a : Act) (w : World) (v : Value) (w' : World) : Prop :=
  (i = s → G a w') ∧ (i = x → ∀ p ∈ Y, ∀ u, (F p.2).p u w → J v u w') ∧ ∀ p ∈ Y, i = p.1 → ∀ u, (F tx).p u w → (∀ q ∈ Y, (C.getD i 0).testBit q.1 = true → J u (a.tmps.getD q.2 undef) w) → J u v w'
structure Known (tx : Nat) (Y : List (Nat × Tmp)) (J : Value → Value → World → Prop) (R : World → World → Prop) (s : Nat) (ops : Array Oper) (C : Array Nat) (L : List Nat) (F F2 : Tmp → SP) (a0 : Act) (w0 : World) (i : Nat) (a : Act) (w : World) : Prop where
  ext : R w0 w
  early : (i = s ∨ (C.getD s 0).testBit i = true) → Ext w0 w
  size : a.tmps.size = a0.tmps.size
  dep : ∀ t, depB ops C L i t = true → (F2 t).p (a.tmps.getD t undef) w
  depE : (i = s ∨ (C.getD s 0).testBit i = true) → ∀ t, depB ops C L i t = true → (F t).p (a.tmps.getD t undef) w
  old : ∀ t, oldB ops C L i t = true → a.tmps.getD t undef = a0.tmps.getD t undef
  rel : i = s → ∀ p ∈ Y, J (a.tmps.getD tx undef) (a.tmps.getD p.2 undef) w
theorem Known.v {tx : Nat} {Y : List (Nat × Tmp)} {J : Value → Value → World → Prop} {R : World → World → Prop} {s : Nat} {C : Array Nat} {L : List Nat} {F F2 : Tmp → SP} {a0 : Act} {w0 : World} {i : Nat} {a : Act} {w : World} (h : Known tx Y J R s ops C L F F2 a0 w0 i a w) (t : Tmp) (hd : depB ops C L i t = true) : (F2 t).p (a.tmps[t]?.getD undef) w := by
  have := h.dep t hd
  rwa [Array.getD_eq_getD_getElem?] at this
theorem Known.ve {tx : Nat} {Y : List (Nat × Tmp)} {J : Value → Value → World → Prop} {R : World → World → Prop} {s : Nat} {C : Array Nat} {L : List Nat} {F F2 : Tmp → SP} {a0 : Act} {w0 : World} {i : Nat} {a : Act} {w : World} (h : Known tx Y J R s ops C L F F2 a0 w0 i a w) (t : Tmp) (he : (i == s || (C.getD s 0).testBit i) = true) (hd : depB ops C L i t = true) : (F t).p (a.tmps[t]?.getD undef) w := by
  have := h.depE (by simpa using he) t hd
  rwa [Array.getD_eq_getD_getElem?] at this
theorem Known.o {tx : Nat} {Y : List (Nat × Tmp)} {J : Value → Value → World → Prop} {R : World → World → Prop} {s : Nat} {C : Array Nat} {L : List Nat} {F F2 : Tmp → SP} {a0 : Act} {w0 : World} {i : Nat} {a : Act} {w : World} (h : Known tx Y J R s ops C L F F2 a0 w0 i a w) (t : Tmp) (hd : oldB ops C L i t = true) : a.tmps[t]?.getD undef = a0.tmps.getD t undef := by
  have := h.old t hd
  rwa [Array.getD_eq_getD_getElem?] at this
def Does (Rl : World → World → Prop) (G : Act → World → Value → World → Prop) (P : Program) (ops : Array Oper) (Q : Exit → Act → World → Prop) (F : Tmp → SP) (o : Oper) (a : Act) (w : World) : Prop :=
  if Region.wanted o (yielded ops a.tmps) then o.wp P a w (fun a' w' => ∃ v, a' = a.put o.dst v ∧ Rl w w' ∧ G a w v w' ∧ ∀ d, o.dst = some d → (F d).p v w') Q
  else G a w undef w ∧ ∀ d, o.dst = some d → (F d).p undef w
structure Ends (R : World → World → Prop) (G : Act → World → Prop) (s : Nat) (C : Array Nat) (ops : Array Oper) (L : List Nat) (F F2 : Tmp → SP) (a0 : Act) (w0 : World) (a : Act) (w : World) : Prop where
  ext : R w0 w
  size : a.tmps.size = a0.tmps.size
  defers : a.defers = a0.defers
  post : ∃ a1, G a1 w ∧ ∀ t, depB ops C L s t = true → a1.tmps.getD t undef = a.tmps.getD t undef
  new : ∀ j ∈ L, ∀ t, (ops[j]?).bind (·.dst) = some t → (F2 t).p (a.tmps.getD t undef) w
  old : ∀ t, (L.all fun j => ((ops[j]?).bind (·.dst)) != some t) = true → a.tmps.getD t undef = a0.tmps.getD t undef
structure Inv (x tx : Nat) (Y : List (Nat × Tmp)) (J : Value → Value → World → Prop) (R : World → World → Prop) (G : Act → World → Prop) (s : Nat) (C : Array Nat) (ops : Array Oper) (L : List Nat) (F F2 : Tmp → SP) (a0 : Act) (w0 : World) (l0 l : Array Bool) (a : Act) (w : World) : Prop where
  ext : R w0 w
  early : l.getD s false = false → Ext w0 w
  post : l.getD s false = true → ∃ a1, G a1 w ∧ ∀ t, depB ops C L s t = true → a1.tmps.getD t undef = a.tmps.getD t undef
  size : a.tmps.size = a0.tmps.size
  defers : a.defers = a0.defers
  lsize : l.size = ops.size
  closed : ∀ j o, ops[j]? = some o → l.getD j false = true → ∀ e ∈ o.after, Region.binds .any e = true → l.getD e.on false = true
  out : ∀ j, j ∉ L → l.getD j false = l0.getD j false
  new : ∀ j ∈ L, l.getD j false = true → ∀ t, (ops[j]?).bind (·.dst) = some t → (F2 t).p (a.tmps.getD t undef) w
  rel : l.getD s false = false → l.getD x false = true → ∀ p ∈ Y, l.getD p.1 false = true → J (a.tmps.getD tx undef) (a.tmps.getD p.2 undef) w
  newE : l.getD s false = false → ∀ j ∈ L, l.getD j false = true → ∀ t, (ops[j]?).bind (·.dst) = some t → (F t).p (a.tmps.getD t undef) w
  old : ∀ t, (∀ j ∈ L, l.getD j false = true → (ops[j]?).bind (·.dst) ≠ some t) → a.tmps.getD t undef = a0.tmps.getD t undef
theorem Inv.step {x tx : Nat} {Y : List (Nat × Tmp)} {J : Value → Value → World → Prop} {R : World → World → Prop} {G : Act → World → Prop} (hGE : ∀ a w w', Ext w w' → G a w → G a w') {s : Nat} {L : List Nat} {F F2 : Tmp → SP} {C : Array Nat} (hC : certB ops C = true) (hLlt : ∀ j ∈ L, j < ops.size) (hss : s < ops.size) (hself : (C.getD s 0).testBit s = false) {a0 : Act} {w0 : World} {l0 l : Array Bool} {a : Act} {w : World} (hfit : fitB ops C l0 L = true)
    (h : Inv x tx Y J R G s C ops L F F2 a0 w0 l0 l a w) {i : Nat} {o : Oper} (hi : i ∈ L) (ho : ops[i]? = some o) (hr : ∀ e ∈ o.after, Region.binds .any e = true → l.getD e.on false = true)
    {v : Value} {w' : World} (hx : R w0 w') (hex : i ≠ s → Ext w w') (hP : PairOK ops C L s x tx Y J) (hGs : Xt C F G J s x tx Y i a w v w') (hun : l.getD i false = false) (hw2 : ∀ t u w, (F t).p u w → (F2 t).p u w) (hmn2 : ∀ t, o.dst ≠ some t → ∀ u, (i ≠ s → (F2 t).p u w → (F2 t).p u w') ∧ (i = s → (F t).p u w → (F2 t).p u w')) (hmnE : i ≠ s → ∀ t, o.dst ≠ some t → ∀ u, (F t).p u w → (F t).p u w') (hv : ∀ d, o.dst = some d → (F d).p v w') (hu : ∀ d, o.dst = some d → a.tmps.size ≤ d → v = undef) :
    Inv x tx Y J R G s C ops L F F2 a0 w0 l0 (l.setIfInBounds i true) (a.put o.dst v) w' := by
  have hlt : i < ops.size := (Array.getElem?_eq_some_iff.1 ho).1
  have hli : i < l.size := by rw [h.lsize]; exact hlt
  have hone : ∀ j ∈ L, ∀ d, (ops[j]?).bind (·.dst) = some d → o.dst = some d → j = i := by
    intro j hj d h1 h2
    simp only [fitB, Bool.and_eq_true] at hfit
    have hfit := hfit.2
    rw [List.all_eq_true] at hfit
    have hjlt : j < ops.size := by
      rcases Nat.lt_or_ge j ops.size with hh | hh
      · exact hh
      · simp [Array.getElem?_eq_none hh] at h1
    have h3 := hfit j (List.mem_range.2 hjlt)
    rw [List.all_eq_true] at h3
    have h4 := h3 i (List.mem_range.2 hlt)
    simp only [ho, Option.bind_some, h2, h1, Bool.or_eq_true, beq_iff_eq, Bool.not_eq_true', bne_iff_ne, ne_eq, not_true_eq_false, or_false] at h4
    rcases h4 with (h4 | h4) | h4
    · exact h4.symm
    · simp [hi] at h4
    · simp [hj] at h4
  refine ⟨hx, fun hls => ?_, fun hls => ?_, by rw [put_size]; exact h.size, by rw [put_defers']; exact h.defers, by simp [h.lsize], ?_, ?_, ?_, ?_, ?_, ?_⟩
  · rw [getD_set _ _ _ hli] at hls
    simp only [Bool.or_eq_false_iff, beq_eq_false_iff_ne] at hls
    exact (h.early hls.2).trans (hex (fun e => hls.1 e.symm))
  · have hkeep : ∀ t, depB ops C L s t = true → (a.put o.dst v).tmps.getD t undef = a.tmps.getD t undef := by
      intro t ht
      simp only [depB, List.any_eq_true, Bool.and_eq_true, beq_iff_eq] at ht
      obtain ⟨j, hj, hbit, hdst⟩ := ht
      have hne : o.dst ≠ some t := by
        intro e
        have hji := hone j hj t hdst e
        subst hji
        -- j is ahead of s, and not listed
        rw [getD_set _ _ _ hli] at hls
        by_cases hjs : s = j
        · subst hjs
          rw [hself] at hbit; cases hbit
        · simp only [beq_iff_eq, hjs, Bool.or_eq_true, false_or] at hls
          have := ahead_listed hC h.closed j hlt s hss (fun o' ho' e' he' hbb => h.closed s o' ho' hls e' he' hbb) hbit
          rw [hun] at this; cases this
      cases hdd : o.dst with
      | none => rfl
      | some d =>
        have hnd : t ≠ d := fun e => hne (by rw [hdd, e])
        rcases Nat.lt_or_ge d a.tmps.size with hs | hs
        · rw [put_getD _ _ _ _ hs, if_neg hnd]
        · rw [put_getD_ge _ _ _ _ hs]
    rw [getD_set _ _ _ hli] at hls
    by_cases his : i = s
    · exact ⟨a, hGs.1 his, fun t ht => (hkeep t ht).symm⟩
    · have hsi : (s == i) = false := by rw [beq_eq_false_iff_ne]; exact fun e => his e.symm
      rw [hsi, Bool.false_or] at hls
      obtain ⟨a1, g1, g2⟩ := h.post hls
      exact ⟨a1, hGE _ _ _ (hex his) g1, fun t ht => (g2 t ht).trans (hkeep t ht).symm⟩
  · intro j oj hoj hlj e he hb
    rw [getD_set _ _ _ hli] at hlj ⊢
    by_cases hji : j = i
    · subst hji
      rw [ho] at hoj
      injection hoj with hoj
      subst hoj
      simp [hr e he hb]
    · simp only [beq_iff_eq, hji, Bool.or_eq_true, false_or] at hlj
      simp [h.closed j oj hoj hlj e he hb]
  · intro j hj
    rw [getD_set _ _ _ hli]
    have hji : j ≠ i := fun e => hj (e ▸ hi)
    simp [hji, h.out j hj]
  · intro j hj hlj t ht
    rw [getD_set _ _ _ hli] at hlj
    by_cases hd : o.dst = some t
    · have := hone j hj t ht hd
      subst this
      rw [hd]
      rcases Nat.lt_or_ge t a.tmps.size with hs | hs
      · rw [put_getD _ _ _ _ hs, if_pos rfl]
        exact hw2 _ _ _ (hv t hd)
      · rw [put_getD_ge _ _ _ _ hs, Array.getD_eq_getD_getElem?, Array.getElem?_eq_none hs, Option.getD_none, ← hu t hd hs]
        exact hw2 _ _ _ (hv t hd)
    · have hji : j ≠ i := by
        intro e
        subst e
        rw [ho, Option.bind_some] at ht
        exact hd ht
      simp only [beq_iff_eq, hji, Bool.or_eq_true, false_or] at hlj
      have hold : (F2 t).p (a.tmps.getD t undef) w' := by
        by_cases his : i = s
        · subst his; exact (hmn2 t hd _).2 rfl (h.newE hun j hj hlj t ht)
        · exact (hmn2 t hd _).1 his (h.new j hj hlj t ht)
      cases hdd : o.dst with
      | none => exact hold
      | some d =>
        have hne : t ≠ d := fun e => hd (by rw [hdd, e])
        rcases Nat.lt_or_ge d a.tmps.size with hs | hs
        · rw [put_getD _ _ _ _ hs, if_neg hne]; exact hold
        · rw [put_getD_ge _ _ _ _ hs]; exact hold
  · intro hls hlx p hp hly
    have his : i ≠ s := by
      intro e
      rw [getD_set _ _ _ hli, e] at hls
      simp at hls
    have hls' : l.getD s false = false := by
      rw [getD_set _ _ _ hli] at hls
      simp only [Bool.or_eq_false_iff] at hls
      exact hls.2
    rw [getD_set _ _ _ hli] at hlx hly
    have hput : ∀ t, o.dst ≠ some t → (a.put o.dst v).tmps.getD t undef = a.tmps.getD t undef := by
      intro t ht
      cases hdd : o.dst with
      | none => rfl
      | some d =>
        have hnd : t ≠ d := fun e => ht (by rw [hdd, e])
        rcases Nat.lt_or_ge d a.tmps.size with hs | hs
        · rw [put_getD _ _ _ _ hs, if_neg hnd]
        · rw [put_getD_ge _ _ _ _ hs]
    have hown : ∀ d, o.dst = some d → (a.put o.dst v).tmps.getD d undef = v := by
      intro d hd
      rw [hd]
      rcases Nat.lt_or_ge d a.tmps.size with hs | hs
      · rw [put_getD _ _ _ _ hs, if_pos rfl]
      · rw [put_getD_ge _ _ _ _ hs, Array.getD_eq_getD_getElem?, Array.getElem?_eq_none hs, Option.getD_none, ← hu d hd hs]
    obtain ⟨hpx, hpt, hpL, hpd, _⟩ := hP.y p hp
    by_cases hix : i = x
    · have hd : o.dst = some tx := by have := hP.xd; rw [← hix, ho, Option.bind_some] at this; exact this
      have hyx : (p.1 == i) = false := by rw [beq_eq_false_iff_ne, hix]; exact hpx
      rw [hyx, Bool.false_or] at hly
      rw [hown tx hd, hput p.2 (by rw [hd]; intro e; injection e with e; exact hpt e.symm)]
      exact hGs.2.1 hix p hp _ (h.newE hls' p.1 hpL hly p.2 hpd)
    · have hxi : (x == i) = false := by rw [beq_eq_false_iff_ne]; exact fun e => hix e.symm
      rw [hxi, Bool.false_or] at hlx
      by_cases hiy : i = p.1
      · have hd : o.dst = some p.2 := by rw [← hiy, ho, Option.bind_some] at hpd; exact hpd
        rw [hown p.2 hd, hput tx (by rw [hd]; intro e; injection e with e; exact hpt e)]
        refine hGs.2.2 p hp hiy _ (h.newE hls' x hP.xL hlx tx hP.xd) (fun q hq hbit => h.rel hls' hlx q hq ?_)
        exact ahead_listed hC h.closed q.1 (hLlt _ (hP.y q hq).2.2.1) i hlt (fun o' ho' e he hbb => by rw [ho] at ho'; injection ho' with ho'; subst ho'; exact hr e he hbb) hbit
      · have hyi : (p.1 == i) = false := by rw [beq_eq_false_iff_ne]; exact fun e => hiy e.symm
        rw [hyi, Bool.false_or] at hly
        rw [hput tx (fun e => hix (hone x hP.xL tx hP.xd e).symm), hput p.2 (fun e => hiy (hone p.1 hpL p.2 hpd e).symm)]
        exact hP.mono _ _ _ _ (hex his) (h.rel hls' hlx p hp hly)
  · intro hls j hj hlj t ht
    have his : i ≠ s := by
      intro e
      rw [getD_set _ _ _ hli, e] at hls
      simp at hls
    have hls' : l.getD s false = false := by
      rw [getD_set _ _ _ hli] at hls
      simp only [Bool.or_eq_false_iff] at hls
      exact hls.2
    rw [getD_set _ _ _ hli] at hlj
    by_cases hd : o.dst = some t
    · have := hone j hj t ht hd
      subst this
      rw [hd]
      rcases Nat.lt_or_ge t a.tmps.size with hs | hs
      · rw [put_getD _ _ _ _ hs, if_pos rfl]
        exact hv t hd
      · rw [put_getD_ge _ _ _ _ hs, Array.getD_eq_getD_getElem?, Array.getElem?_eq_none hs, Option.getD_none, ← hu t hd hs]
        exact hv t hd
    · have hji : j ≠ i := by
        intro e
        subst e
        rw [ho, Option.bind_some] at ht
        exact hd ht
      simp only [beq_iff_eq, hji, Bool.or_eq_true, false_or] at hlj
      have hold := hmnE his t hd _ (h.newE hls' j hj hlj t ht)
      cases hdd : o.dst with
      | none => exact hold
      | some d =>
        have hne : t ≠ d := fun e => hd (by rw [hdd, e])
        rcases Nat.lt_or_ge d a.tmps.size with hs | hs
        · rw [put_getD _ _ _ _ hs, if_neg hne]; exact hold
        · rw [put_getD_ge _ _ _ _ hs]; exact hold
  · intro t ht
    have hne : o.dst ≠ some t := by
      intro e
      refine ht i hi ?_ (by rw [ho, Option.bind_some, e])
      rw [getD_set _ _ _ hli]
      simp
    have hold : a.tmps.getD t undef = a0.tmps.getD t undef := h.old t fun j hj hlj => ht j hj (by rw [getD_set _ _ _ hli, hlj]; simp)
    rw [← hold]
    cases hdd : o.dst with
    | none => rfl
    | some d =>
      have hne : t ≠ d := fun e => hne (by rw [hdd, e])
      rcases Nat.lt_or_ge d a.tmps.size with hs | hs
      · rw [put_getD _ _ _ _ hs, if_neg hne]
      · rw [put_getD_ge _ _ _ _ hs]
theorem wpAny_flow_aux {x tx : Nat} {Y : List (Nat × Tmp)} {J : Value → Value → World → Prop} {G : Act → World → Prop} (hGE : ∀ a w w', Ext w w' → G a w → G a w') {R : World → World → Prop} {s : Nat} (hRE : ∀ w w', Ext w w' → R w w') (hRT : ∀ {a b c}, R a b → R b c → R a c) (hs : s < ops.size) {L : List Nat} {F F2 : Tmp → SP} {C : Array Nat} {a0 : Act} {w0 : World} {l0 : Array Bool} (hC : certB ops C = true) (hfit : fitB ops C l0 L = true) (hdeps : depsB ops l0 L = true)
    (hrg : rangeB ops a0.tmps.size = true) (hnd : L.Nodup) (hsL : s ∈ L) (hself : (C.getD s 0).testBit s = false) (rest : Nat)
    (hP : PairOK ops C L s x tx Y J) (hw2 : ∀ t u w, (F t).p u w → (F2 t).p u w) (hmono : ∀ t, (ops[s]?).bind (·.dst) ≠ some t → ∀ u w w', R w w' → (F t).p u w → (F2 t).p u w')
    (hop : ∀ i ∈ L, ∀ o, ops[i]? = some o → ∀ a w, Known tx Y J R s ops C L F F2 a0 w0 i a w → Does (if i = s then R else Ext) (Xt C F G J s x tx Y i) P ops Q F o a w)
    (hend : ∀ a w, Ends R G s C ops L F F2 a0 w0 a w → wpAny P .any ops Q rest (marked l0 L) a w) :
    ∀ (m : Nat) (l : Array Bool) (a : Act) (w : World), left l L = m → Inv x tx Y J R G s C ops L F F2 a0 w0 l0 l a w → wpAny P .any ops Q (m + rest) l a w := by
  have hLlt : ∀ i ∈ L, i < ops.size := by
    intro i hi
    simp only [fitB, Bool.and_eq_true, List.all_eq_true] at hfit
    have := hfit.1.1.2 i hi
    simp only [decide_eq_true_eq] at this
    exact this.1
  have hl0s : l0.size = ops.size := by
    simp only [fitB, Bool.and_eq_true, beq_iff_eq] at hfit
    exact hfit.1.1.1
  intro m
  induction m with
  | zero =>
    intro l a w hm h
    have hall : ∀ i ∈ L, l.getD i false = true := by
      intro i hi
      cases hb : l.getD i false with
      | true => rfl
      | false =>
        have := List.countP_eq_zero.1 hm i hi
        rw [hb] at this
        simp at this
    have hl : l = marked l0 L := by
      apply Array.ext
      · rw [marked_size, h.lsize, hl0s]
      · intro j h1 h2
        have hj := marked_getD L l0 (fun i hi => by rw [hl0s]; exact hLlt i hi) j
        have e1 : l.getD j false = l[j] := by rw [Array.getD_eq_getD_getElem?, Array.getElem?_eq_getElem h1, Option.getD_some]
        have e2 : (marked l0 L).getD j false = (marked l0 L)[j] := by rw [Array.getD_eq_getD_getElem?, Array.getElem?_eq_getElem h2, Option.getD_some]
        rw [← e1, ← e2, hj]
        by_cases hjL : j ∈ L
        · simp [hjL, hall j hjL]
        · simp [hjL, h.out j hjL]
    rw [Nat.zero_add, hl]
    refine hend a w ⟨h.ext, h.size, h.defers, h.post (hall s hsL), fun j hj t ht => h.new j hj (hall j hj) t ht, fun t ht => h.old t fun j hj _ e => ?_⟩
    rw [List.all_eq_true] at ht
    have := ht j hj
    rw [e] at this
    simp at this
  | succ m ih =>
    intro l a w hm h
    have hun : ∃ i ∈ L, l.getD i false = false ∧ ∀ j ∈ L, j < i → l.getD j false = true := by
      rcases unlisted l L with h1 | h1
      · have : left l L = 0 := by
          unfold left
          rw [List.countP_eq_zero]
          intro i hi
          rw [h1 i hi]
          simp
        omega
      · exact h1
    have hready : ∀ i ∈ Region.ready .any ops l, i ∈ L := by
      intro i hi
      obtain ⟨o, ho, hb, hd⟩ := mem_ready' hi h.lsize
      apply Classical.byContradiction
      intro hnL
      obtain ⟨k, hk, hkb, _⟩ := hun
      have hilt : i < ops.size := (Array.getElem?_eq_some_iff.1 ho).1
      have hb0 : l0.getD i false = false := by rw [← h.out i hnL]; exact hb
      have hbit : (C.getD i 0).testBit k = true := by
        simp only [fitB, Bool.and_eq_true, List.all_eq_true] at hfit
        have h1 := hfit.1.2 i (List.mem_range.2 hilt)
        simp only [hb0, Bool.false_or, Bool.or_eq_true, List.contains_iff_mem, hnL, false_or, List.all_eq_true] at h1
        exact h1 k hk
      have := ahead_listed hC h.closed k (hLlt k hk) i hilt (fun o' ho' e he hbb => by rw [ho] at ho'; injection ho' with ho'; subst ho'; exact hd e he hbb) hbit
      rw [this] at hkb
      cases hkb
    have hne : Region.ready .any ops l ≠ [] := by
      obtain ⟨k, hk, hkb, hmin⟩ := hun
      have hklt := hLlt k hk
      have hmem : k ∈ Region.ready .any ops l := by
        refine mem_ready.2 ⟨?_, ops[k], Array.getElem?_eq_getElem hklt, fun e he hb => ?_⟩
        · have hkl : k < l.size := by rw [h.lsize]; exact hklt
          rw [Array.getD_eq_getD_getElem?, Array.getElem?_eq_getElem hkl, Option.getD_some] at hkb ⊢
          exact hkb
        · simp only [depsB, List.all_eq_true] at hdeps
          have h1 := hdeps k hk
          rw [Array.getElem?_eq_getElem hklt] at h1
          simp only [Option.map_some, Option.getD_some, Array.all_eq_true_iff_forall_mem] at h1
          have h2 := h1 e he
          simp only [hb, Bool.not_true, Bool.false_or, Bool.or_eq_true, Bool.and_eq_true, List.contains_iff_mem, decide_eq_true_eq] at h2
          rcases h2 with h2 | ⟨h2, h3⟩
          · by_cases hel : e.on ∈ L
            · have helt := hLlt e.on hel
              simp only [fitB, Bool.and_eq_true, List.all_eq_true] at hfit
              have h4 := hfit.1.1.2 e.on hel
              simp [h2] at h4
            · rw [h.out e.on hel]; exact h2
          · exact hmin e.on h2 h3
      intro hnil
      rw [hnil] at hmem
      cases hmem
    rw [show m + 1 + rest = (m + rest) + 1 from by omega]
    refine wpAny_fuel_ready hne fun i hi => ?_
    have hiL := hready i hi
    obtain ⟨o, ho, hb, hd⟩ := mem_ready' hi h.lsize
    have hilt : i < ops.size := (Array.getElem?_eq_some_iff.1 ho).1
    have hleft : left (l.setIfInBounds i true) L = m := by
      have h1 := left_set l i (by rw [h.lsize]; exact hilt) L hnd hiL hb
      omega
    have hdstlt : ∀ d, o.dst = some d → d < a0.tmps.size := by
      intro d hd'
      simp only [rangeB, Array.all_eq_true_iff_forall_mem] at hrg
      have := hrg o (Array.mem_of_getElem? ho)
      rw [hd'] at this
      simpa using this
    have hknown : Known tx Y J R s ops C L F F2 a0 w0 i a w := by
      have hse : (i = s ∨ (C.getD s 0).testBit i = true) → l.getD s false = false := by
        intro hes
        rcases hes with rfl | hes
        · exact hb
        · cases hls : l.getD s false with
          | false => rfl
          | true =>
            have := ahead_listed hC h.closed i hilt s hs (fun o' ho' e he hbb => h.closed s o' ho' hls e he hbb) hes
            rw [hb] at this; cases this
      refine ⟨h.ext, fun hes => h.early (hse hes), h.size, fun t ht => ?_, fun hes t ht => ?_, fun t ht => ?_, fun his => ?_⟩
      · simp only [depB, List.any_eq_true, Bool.and_eq_true, beq_iff_eq] at ht
        obtain ⟨j, hj, hbit, hdst⟩ := ht
        exact h.new j hj (ahead_listed hC h.closed j (hLlt j hj) i hilt (fun o' ho' e he hbb => by rw [ho] at ho'; injection ho' with ho'; subst ho'; exact hd e he hbb) hbit) t hdst
      · simp only [depB, List.any_eq_true, Bool.and_eq_true, beq_iff_eq] at ht
        obtain ⟨j, hj, hbit, hdst⟩ := ht
        exact h.newE (hse hes) j hj (ahead_listed hC h.closed j (hLlt j hj) i hilt (fun o' ho' e he hbb => by rw [ho] at ho'; injection ho' with ho'; subst ho'; exact hd e he hbb) hbit) t hdst
      · refine h.old t fun j hj hlj hdst => ?_
        simp only [oldB, List.all_eq_true] at ht
        have h1 := ht j hj
        simp only [hdst, bne_self_eq_false, Bool.false_or, Bool.or_eq_true, beq_iff_eq] at h1
        rcases h1 with rfl | h1
        · rw [hb] at hlj; cases hlj
        · have hjlt := hLlt j hj
          have := ahead_listed hC h.closed i hilt j hjlt (fun o' ho' e he hbb => h.closed j o' ho' hlj e he hbb) h1
          rw [hb] at this; cases this
      · have hah : ∀ j ∈ L, (C.getD s 0).testBit j = true → l.getD j false = true := fun j hj hbit => by
          subst his
          exact ahead_listed hC h.closed j (hLlt j hj) i hilt (fun o' ho' e he hbb => by rw [ho] at ho'; injection ho' with ho'; subst ho'; exact hd e he hbb) hbit
        exact fun p hp => h.rel (hse (.inl his)) (hah x hP.xL hP.xs) p hp (hah p.1 (hP.y p hp).2.2.1 (hP.y p hp).2.2.2.2)
    have hdoes := hop i hiL o ho a w hknown
    unfold wpOp
    rw [ho]
    unfold Does at hdoes
    show if Region.wanted o (yielded ops a.tmps) = true then _ else _
    split
    · rename_i hw
      rw [if_pos hw] at hdoes
      refine .inl (Oper.wp_mono (fun a' w' hk => ?_) hdoes)
      obtain ⟨v, rfl, hx, hgs, hv⟩ := hk
      have hxR : R w w' := by
        split at hx
        · exact hx
        · exact hRE _ _ hx
      refine ih _ _ _ hleft (h.step hGE hC hLlt hs hself hfit hiL ho hd (hRT h.ext hxR) (fun hne => by rw [if_neg hne] at hx; exact hx) hP hgs hb hw2 (fun t ht u => ⟨fun his hu => ?_, fun his hu => ?_⟩) (fun his t ht u hu => ?_) hv fun d hd' hge => absurd (hdstlt d hd') (Nat.not_lt.2 (h.size ▸ hge)))
      · rw [if_neg his] at hx
        exact (F2 t).mono _ _ _ hx hu
      · subst his
        exact hmono t (by rw [ho]; exact ht) u _ _ hxR hu
      · rw [if_neg his] at hx
        exact (F t).mono _ _ _ hx hu
    · rename_i hw
      rw [if_neg hw] at hdoes
      exact ih _ _ _ hleft (h.step hGE hC hLlt hs hself hfit hiL ho hd h.ext (fun _ => Ext.refl w) hP hdoes.1 hb hw2 (fun t ht u => ⟨fun _ hu => hu, fun _ hu => hw2 _ _ _ hu⟩) (fun _ t ht u hu => hu) hdoes.2 fun d hd' hge => rfl)
theorem wpAny_flow {x tx : Nat} {Y : List (Nat × Tmp)} {J : Value → Value → World → Prop} {G : Act → World → Prop} (hGE : ∀ a w w', Ext w w' → G a w → G a w') {R : World → World → Prop} {s : Nat} (hRE : ∀ w w', Ext w w' → R w w') (hRT : ∀ {a b c}, R a b → R b c → R a c) (hs : s < ops.size) {L : List Nat} {F F2 : Tmp → SP} {C : Array Nat} {a0 : Act} {w0 : World} {l0 : Array Bool} (hC : certB ops C = true) (hcl : closedB ops l0 = true) (hfit : fitB ops C l0 L = true) (hdeps : depsB ops l0 L = true)
    (hrg : rangeB ops a0.tmps.size = true) (hnd : L.Nodup) (hsL : s ∈ L) (hself : (C.getD s 0).testBit s = false) (rest : Nat)
    (hP : PairOK ops C L s x tx Y J) (hw2 : ∀ t u w, (F t).p u w → (F2 t).p u w) (hmono : ∀ t, (ops[s]?).bind (·.dst) ≠ some t → ∀ u w w', R w w' → (F t).p u w → (F2 t).p u w')
    (hop : ∀ i ∈ L, ∀ o, ops[i]? = some o → ∀ a w, Known tx Y J R s ops C L F F2 a0 w0 i a w → Does (if i = s then R else Ext) (Xt C F G J s x tx Y i) P ops Q F o a w)
    (hend : ∀ a w, Ends R G s C ops L F F2 a0 w0 a w → wpAny P .any ops Q rest (marked l0 L) a w) : wpAny P .any ops Q (L.length + rest) l0 a0 w0 := by
  have hl0 : ∀ i ∈ L, l0.getD i false = false := by
    intro i hi
    simp only [fitB, Bool.and_eq_true, List.all_eq_true] at hfit
    have := hfit.1.1.2 i hi
    simp only [Bool.not_eq_true'] at this
    exact this.2
  have hl0s : l0.size = ops.size := by
    simp only [fitB, Bool.and_eq_true, beq_iff_eq] at hfit
    exact hfit.1.1.1
  have hleft : left l0 L = L.length := by
    unfold left
    rw [List.countP_eq_length]
    intro i hi
    rw [hl0 i hi]; rfl
  refine wpAny_flow_aux hGE hRE hRT hs hC hfit hdeps hrg hnd hsL hself rest hP hw2 hmono hop hend L.length l0 a0 w0 hleft ⟨hRE _ _ (Ext.refl _), fun _ => Ext.refl _, fun h => absurd h (by rw [hl0 s hsL]; simp), rfl, rfl, hl0s, ?_, fun _ _ => rfl, fun j hj hlj => ?_, fun _ hlx _ _ _ => ?_, fun _ j hj hlj => ?_, fun _ _ => rfl⟩
  · intro j o ho hlj e he hb
    have hjlt : j < ops.size := (Array.getElem?_eq_some_iff.1 ho).1
    simp only [closedB, List.all_eq_true] at hcl
    have h1 := hcl j (List.mem_range.2 hjlt)
    rw [ho] at h1
    simp only [hlj, Bool.not_true, Bool.false_or, Option.map_some, Option.getD_some, Array.all_eq_true_iff_forall_mem, Bool.or_eq_true, Bool.not_eq_true'] at h1
    rcases h1 e he with h2 | h2
    · rw [hb] at h2; cases h2
    · exact h2
  · rw [hl0 j hj] at hlj; cases hlj
  · rw [hl0 x hP.xL] at hlx; cases hlx
  · rw [hl0 j hj] at hlj; cases hlj
theorem wp_region_flow_tail {x tx : Nat} {Y : List (Nat × Tmp)} {J : Value → Value → World → Prop} {G : Act → World → Prop} (hGE : ∀ a w w', Ext w w' → G a w → G a w') {R : World → World → Prop} {s : Nat} (hRE : ∀ w w', Ext w w' → R w w') (hRT : ∀ {a b c}, R a b → R b c → R a c) (hs : s < ops.size) {id : Nat} {F F2 : Tmp → SP} (C : Array Nat) (m : Nat) {a0 : Act} {w0 : World} (hm : P.follows .mixedOrders = true) (hmn : m ≤ ops.size) (hsm : s < m) (hself : (C.getD s 0).testBit s = false) (hC : certB ops C = true) (ht : tailB ops C m = true)
    (hfit : fitB ops C (Array.replicate ops.size false) (List.range m) = true) (hdeps : depsB ops (Array.replicate ops.size false) (List.range m) = true) (hrg : rangeB ops a0.tmps.size = true)
    (hP : PairOK ops C (List.range m) s x tx Y J) (hw2 : ∀ t u w, (F t).p u w → (F2 t).p u w) (hmono : ∀ t, (ops[s]?).bind (·.dst) ≠ some t → ∀ u w w', R w w' → (F t).p u w → (F2 t).p u w')
    (hop : ∀ i, i < m → ∀ o, ops[i]? = some o → ∀ a w, Known tx Y J R s ops C (List.range m) F F2 a0 { w0 with drawn := w0.drawn + 1 } i a w → Does (if i = s then R else Ext) (Xt C F G J s x tx Y i) P ops Q F o a w)
    (hend : ∀ a w, Ends R G s C ops (List.range m) F F2 a0 { w0 with drawn := w0.drawn + 1 } a w → wpList P ops Q (ops.toList.drop m) a w) : (Code.region id ops true).wp P Q a0 w0 := by
  refine wp_region_any hm ?_
  have h := wpAny_flow hGE hRE hRT hs (P := P) (Q := Q) (ops := ops) (L := List.range m) (F := F) (F2 := F2) (C := C) (a0 := a0) (w0 := { w0 with drawn := w0.drawn + 1 }) (l0 := Array.replicate ops.size false) hC ?_ hfit hdeps hrg List.nodup_range (List.mem_range.2 hsm) hself (ops.size - m) hP hw2 hmono
    (fun i hi o ho a w hk => hop i (List.mem_range.1 hi) o ho a w hk) ?_
  · simpa [show m + (ops.size - m) = ops.size from by omega] using h
  · simp only [closedB, List.all_eq_true]
    intro j _
    have : (Array.replicate ops.size false).getD j false = false := by
      rw [Array.getD_eq_getD_getElem?, Array.getElem?_replicate]
      split <;> rfl
    rw [this]; rfl
  · intro a w he
    rw [marked_range _ _ hmn]
    exact wpAny_tail hC ht _ m (by omega) (Nat.le_refl _) a w (hend a w he)
theorem Ends.out {R : World → World → Prop} {G : Act → World → Prop} {s : Nat} {C : Array Nat} {L : List Nat} {F F2 : Tmp → SP} {a0 : Act} {w0 : World} {a : Act} {w : World} (h : Ends R G s C ops L F F2 a0 w0 a w) (ds : List Nat) (hd : (L.filterMap fun j => (ops[j]?).bind (·.dst)) = ds) :
    ∃ us : Nat → Value, a = ⟨(fillL ds us 0 a0.tmps.toList).toArray, a0.defers⟩ ∧ ∀ t ∈ ds, (F2 t).p (us t) w := by
  refine ⟨fun t => a.tmps.getD t undef, ?_, fun t ht => ?_⟩
  · obtain ⟨tmps, defers⟩ := a
    have h1 := h.size
    have h2 := h.defers
    have h3 := h.old
    simp only at h1 h2 h3
    subst h2
    congr 1
    apply Array.ext
    · simp [fillL_length, h1]
    · intro j j1 j2
      have e : (fillL ds (fun t => tmps.getD t undef) 0 a0.tmps.toList)[j]? = some tmps[j] := by
        rw [fillL_get, Nat.zero_add]
        have hj : j < a0.tmps.size := by rw [← h1]; exact j1
        rw [Array.getElem?_toList, Array.getElem?_eq_getElem hj, Option.map_some]
        have e1 : tmps.getD j undef = tmps[j] := by rw [Array.getD_eq_getD_getElem?, Array.getElem?_eq_getElem j1, Option.getD_some]
        by_cases hc : ds.contains j = true
        · rw [if_pos hc, e1]
        · rw [if_neg hc]
          have h4 := h3 j (by
            rw [List.all_eq_true]
            intro q hq
            rw [bne_iff_ne]
            intro he
            apply hc
            rw [List.contains_iff_mem, ← hd]
            exact List.mem_filterMap.2 ⟨q, hq, he⟩)
          rw [e1, Array.getD_eq_getD_getElem?, Array.getElem?_eq_getElem hj, Option.getD_some] at h4
          rw [h4]
      rw [List.getElem_toArray]
      have := (List.getElem?_eq_some_iff.1 e).2
      exact this.symm
  · rw [← hd] at ht
    obtain ⟨j, hj, hjd⟩ := List.mem_filterMap.1 ht
    exact h.new j hj t hjd
def OpsDo (x tx : Nat) (Y : List (Nat × Tmp)) (J : Value → Value → World → Prop) (G : Act → World → Prop) (R : World → World → Prop) (s : Nat) (P : Program) (ops : Array Oper) (Q : Exit → Act → World → Prop) (C : Array Nat) (L : List Nat) (F F2 : Tmp → SP) (a0 : Act) (w0 : World) : Nat → List Oper → Prop
  | _, [] => True
  | i, o :: l => (∀ a w, Known tx Y J R s ops C L F F2 a0 w0 i a w → Does (if i = s then R else Ext) (Xt C F G J s x tx Y i) P ops Q F o a w) ∧ OpsDo x tx Y J G R s P ops Q C L F F2 a0 w0 (i + 1) l
theorem OpsDo.at_ {x tx : Nat} {Y : List (Nat × Tmp)} {J : Value → Value → World → Prop} {G : Act → World → Prop} {R : World → World → Prop} {s : Nat} {C : Array Nat} {L : List Nat} {F F2 : Tmp → SP} {a0 : Act} {w0 : World} : ∀ (l : List Oper) (k : Nat), OpsDo x tx Y J G R s P ops Q C L F F2 a0 w0 k l → ∀ i o, l[i]? = some o → ∀ a w, Known tx Y J R s ops C L F F2 a0 w0 (k + i) a w → Does (if k + i = s then R else Ext) (Xt C F G J s x tx Y (k + i)) P ops Q F o a w
  | [], _, _, i, o, h => by simp at h
  | x :: l, k, h, 0, o, ho => by
    intro a w hk
    obtain rfl : x = o := by simpa using ho
    exact h.1 a w hk
  | x :: l, k, h, i + 1, o, ho => by
    intro a w hk
    have := OpsDo.at_ l (k + 1) h.2 i o (by simpa using ho) a w (by rw [Nat.add_right_comm]; exact hk)
    rw [Nat.add_right_comm] at this; exact this
theorem wp_region_flow_l {x tx : Nat} {Y : List (Nat × Tmp)} {J : Value → Value → World → Prop} {G : Act → World → Prop} (hGE : ∀ a w w', Ext w w' → G a w → G a w') {R : World → World → Prop} (s : Nat) (hRE : ∀ w w', Ext w w' → R w w') (hRT : ∀ {a b c}, R a b → R b c → R a c) {id : Nat} (F F2 : Tmp → SP) (m : Nat) {a0 : Act} {w0 : World} (hm : P.follows .mixedOrders = true) (n : Nat) (hn : a0.tmps.size = n) (hB : flowB ops m n = true)
    (hs : s < ops.size) (hsm : s < m) (hself : ((Region.before ops).getD s 0).testBit s = false) (hP : PairOK ops (Region.before ops) (List.range m) s x tx Y J) (hw2 : ∀ t u w, (F t).p u w → (F2 t).p u w) (hmono : ∀ t, (ops[s]?).bind (·.dst) ≠ some t → ∀ u w w', R w w' → (F t).p u w → (F2 t).p u w')
    (hop : OpsDo x tx Y J G R s P ops Q (Region.before ops) (List.range m) F F2 a0 w0.drew 0 (ops.toList.take m))
    (hend : ∀ a w, Ends R G s (Region.before ops) ops (List.range m) F F2 a0 w0.drew a w → wpList P ops Q (ops.toList.drop m) a w) : (Code.region id ops true).wp P Q a0 w0 := by
  simp only [flowB, Bool.and_eq_true, decide_eq_true_eq] at hB
  obtain ⟨⟨⟨⟨⟨h1, h2⟩, h3⟩, h4⟩, h5⟩, h6⟩ := hB
  exact wp_region_flow_tail hGE hRE hRT hs (Region.before ops) m hm h1 hsm hself h2 h3 h4 h5 (by rw [hn]; exact h6) hP hw2 hmono (fun i hi o ho a w hk => by have := OpsDo.at_ (ops.toList.take m) 0 hop i o (by rw [List.getElem?_take]; simpa [hi] using ho) a w (by rw [Nat.zero_add]; exact hk); rw [Nat.zero_add] at this; exact this) hend
theorem does_intro {Rl : World → World → Prop} {G : Act → World → Value → World → Prop} {F : Tmp → SP} {o : Oper} {a : Act} {w : World} (hg : Region.wanted o (yielded ops a.tmps) = true)
    (h : ∀ K : Act → World → Prop, (∀ v w', Rl w w' → G a w v w' → (∀ d, o.dst = some d → (F d).p v w') → K (a.put o.dst v) w') → o.wp P a w K Q) : Does Rl G P ops Q F o a w := by
  unfold Does
  rw [if_pos hg]
  exact h _ fun v w' h1 hg h2 => ⟨v, rfl, h1, hg, h2⟩
def over : List (Tmp × SP) → (Tmp → SP) → Tmp → SP
  | [], F, t => F t
  | (k, q) :: l, F, t => cond (Nat.beq t k) q (over l F t)
theorem over_weak {F : Tmp → SP} : ∀ {l : List (Tmp × SP)}, (∀ x ∈ l, ∀ u w, (F x.1).p u w → x.2.p u w) → ∀ t u w, (F t).p u w → (over l F t).p u w
  | [], _, t, u, w, h => h
  | (k, q) :: l, hl, t, u, w, h => by
    unfold over
    cases hb : Nat.beq t k with
    | true =>
      obtain rfl := Nat.eq_of_beq_eq_true hb
      exact hl (t, q) (by simp) u w h
    | false => exact over_weak (fun x hx => hl x (by simp [hx])) t u w h
end FlowJ
end Go.Proofs.Ytgkgedjmnbjalaa
set_option linter.unusedSimpArgs false
set_option linter.unusedVariables false
namespace Go.Proofs.Ytgkgedjmnbjalaa
open Go.RowKit
namespace FlowS
open Flow (certB closedB fitB depB oldB depsB rangeB tailB flowB fillL marked left ahead_listed getD_set put_getD put_getD_ge put_size put_defers' mem_ready' marked_size marked_getD unlisted left_set wpAny_fuel_ready upto wpAny_tail marked_range fillL_length fillL_get countP_set countP_other upto_getD upto_size upto_set)
variable {P : Program} {ops : Array Oper} {Q : Exit → Act → World → Prop}
structure Known (R : World → World → Prop) (s : Nat) (ops : Array Oper) (C : Array Nat) (L : List Nat) (F : Tmp → SP) (a0 : Act) (w0 : World) (i : Nat) (a : Act) (w : World) : Prop where
  ext : R w0 w
  early : (i = s ∨ (C.getD s 0).testBit i = true) → Ext w0 w
  size : a.tmps.size = a0.tmps.size
  dep : ∀ t, depB ops C L i t = true → (F t).p (a.tmps.getD t undef) w
  old : ∀ t, oldB ops C L i t = true → a.tmps.getD t undef = a0.tmps.getD t undef
theorem Known.v {R : World → World → Prop} {s : Nat} {C : Array Nat} {L : List Nat} {F : Tmp → SP} {a0 : Act} {w0 : World} {i : Nat} {a : Act} {w : World} (h : Known R s ops C L F a0 w0 i a w) (t : Tmp) (hd : depB ops C L i t = true) : (F t).p (a.tmps[t]?.getD undef) w := by
  have := h.dep t hd
  rwa [Array.getD_eq_getD_getElem?] at this
theorem Known.o {R : World → World → Prop} {s : Nat} {C : Array Nat} {L : List Nat} {F : Tmp → SP} {a0 : Act} {w0 : World} {i : Nat} {a : Act} {w : World} (h : Known R s ops C L F a0 w0 i a w) (t : Tmp) (hd : oldB ops C L i t = true) : a.tmps[t]?.getD undef = a0.tmps.getD t undef := by
  have := h.old t hd
  rwa [Array.getD_eq_getD_getElem?] at this
def Does (Rl : World → World → Prop) (P : Program) (ops : Array Oper) (Q : Exit → Act → World → Prop) (F : Tmp → SP) (o : Oper) (a : Act) (w : World) : Prop :=
  if Region.wanted o (yielded ops a.tmps) then o.wp P a w (fun a' w' => ∃ v, a' = a.put o.dst v ∧ Rl w w' ∧ ∀ d, o.dst = some d → (F d).p v w') Q
  else ∀ d, o.dst = some d → (F d).p undef w
structure Ends (R : World → World → Prop) (ops : Array Oper) (L : List Nat) (F : Tmp → SP) (a0 : Act) (w0 : World) (a : Act) (w : World) : Prop where
  ext : R w0 w
  size : a.tmps.size = a0.tmps.size
  defers : a.defers = a0.defers
  new : ∀ j ∈ L, ∀ t, (ops[j]?).bind (·.dst) = some t → (F t).p (a.tmps.getD t undef) w
  old : ∀ t, (L.all fun j => ((ops[j]?).bind (·.dst)) != some t) = true → a.tmps.getD t undef = a0.tmps.getD t undef
structure Inv (R : World → World → Prop) (s : Nat) (ops : Array Oper) (L : List Nat) (F : Tmp → SP) (a0 : Act) (w0 : World) (l0 l : Array Bool) (a : Act) (w : World) : Prop where
  ext : R w0 w
  early : l.getD s false = false → Ext w0 w
  size : a.tmps.size = a0.tmps.size
  defers : a.defers = a0.defers
  lsize : l.size = ops.size
  closed : ∀ j o, ops[j]? = some o → l.getD j false = true → ∀ e ∈ o.after, Region.binds .any e = true → l.getD e.on false = true
  out : ∀ j, j ∉ L → l.getD j false = l0.getD j false
  new : ∀ j ∈ L, l.getD j false = true → ∀ t, (ops[j]?).bind (·.dst) = some t → (F t).p (a.tmps.getD t undef) w
  old : ∀ t, (∀ j ∈ L, l.getD j false = true → (ops[j]?).bind (·.dst) ≠ some t) → a.tmps.getD t undef = a0.tmps.getD t undef
theorem Inv.step {R : World → World → Prop} {s : Nat} {L : List Nat} {F : Tmp → SP} {C : Array Nat} {a0 : Act} {w0 : World} {l0 l : Array Bool} {a : Act} {w : World} (hfit : fitB ops C l0 L = true)
    (h : Inv R s ops L F a0 w0 l0 l a w) {i : Nat} {o : Oper} (hi : i ∈ L) (ho : ops[i]? = some o) (hr : ∀ e ∈ o.after, Region.binds .any e = true → l.getD e.on false = true)
    {v : Value} {w' : World} (hx : R w0 w') (hex : i ≠ s → Ext w w') (hmn : ∀ t, o.dst ≠ some t → ∀ u, (F t).p u w → (F t).p u w') (hv : ∀ d, o.dst = some d → (F d).p v w') (hu : ∀ d, o.dst = some d → a.tmps.size ≤ d → v = undef) :
    Inv R s ops L F a0 w0 l0 (l.setIfInBounds i true) (a.put o.dst v) w' := by
  have hlt : i < ops.size := (Array.getElem?_eq_some_iff.1 ho).1
  have hli : i < l.size := by rw [h.lsize]; exact hlt
  have hone : ∀ j ∈ L, ∀ d, (ops[j]?).bind (·.dst) = some d → o.dst = some d → j = i := by
    intro j hj d h1 h2
    simp only [fitB, Bool.and_eq_true] at hfit
    have hfit := hfit.2
    rw [List.all_eq_true] at hfit
    have hjlt : j < ops.size := by
      rcases Nat.lt_or_ge j ops.size with hh | hh
      · exact hh
      · simp [Array.getElem?_eq_none hh] at h1
    have h3 := hfit j (List.mem_range.2 hjlt)
    rw [List.all_eq_true] at h3
    have h4 := h3 i (List.mem_range.2 hlt)
    simp only [ho, Option.bind_some, h2, h1, Bool.or_eq_true, beq_iff_eq, Bool.not_eq_true', bne_iff_ne, ne_eq, not_true_eq_false, or_false] at h4
    rcases h4 with (h4 | h4) | h4
    · exact h4.symm
    · simp [hi] at h4
    · simp [hj] at h4
  refine ⟨hx, fun hls => ?_, by rw [put_size]; exact h.size, by rw [put_defers']; exact h.defers, by simp [h.lsize], ?_, ?_, ?_, ?_⟩
  · rw [getD_set _ _ _ hli] at hls
    simp only [Bool.or_eq_false_iff, beq_eq_false_iff_ne] at hls
    exact (h.early hls.2).trans (hex (fun e => hls.1 e.symm))
  · intro j oj hoj hlj e he hb
    rw [getD_set _ _ _ hli] at hlj ⊢
    by_cases hji : j = i
    · subst hji
      rw [ho] at hoj
      injection hoj with hoj
      subst hoj
      simp [hr e he hb]
    · simp only [beq_iff_eq, hji, Bool.or_eq_true, false_or] at hlj
      simp [h.closed j oj hoj hlj e he hb]
  · intro j hj
    rw [getD_set _ _ _ hli]
    have hji : j ≠ i := fun e => hj (e ▸ hi)
    simp [hji, h.out j hj]
  · intro j hj hlj t ht
    rw [getD_set _ _ _ hli] at hlj
    by_cases hd : o.dst = some t
    · have := hone j hj t ht hd
      subst this
      rw [hd]
      rcases Nat.lt_or_ge t a.tmps.size with hs | hs
      · rw [put_getD _ _ _ _ hs, if_pos rfl]
        exact hv t hd
      · rw [put_getD_ge _ _ _ _ hs, Array.getD_eq_getD_getElem?, Array.getElem?_eq_none hs, Option.getD_none, ← hu t hd hs]
        exact hv t hd
    · have hji : j ≠ i := by
        intro e
        subst e
        rw [ho, Option.bind_some] at ht
        exact hd ht
      simp only [beq_iff_eq, hji, Bool.or_eq_true, false_or] at hlj
      have hold := hmn t hd _ (h.new j hj hlj t ht)
      cases hdd : o.dst with
      | none => exact hold
      | some d =>
        have hne : t ≠ d := fun e => hd (by rw [hdd, e])
        rcases Nat.lt_or_ge d a.tmps.size with hs | hs
        · rw [put_getD _ _ _ _ hs, if_neg hne]; exact hold
        · rw [put_getD_ge _ _ _ _ hs]; exact hold
  · intro t ht
    have hne : o.dst ≠ some t := by
      intro e
      refine ht i hi ?_ (by rw [ho, Option.bind_some, e])
      rw [getD_set _ _ _ hli]
      simp
    have hold : a.tmps.getD t undef = a0.tmps.getD t undef := h.old t fun j hj hlj => ht j hj (by rw [getD_set _ _ _ hli, hlj]; simp)
    rw [← hold]
    cases hdd : o.dst with
    | none => rfl
    | some d =>
      have hne : t ≠ d := fun e => hne (by rw [hdd, e])
      rcases Nat.lt_or_ge d a.tmps.size with hs | hs
      · rw [put_getD _ _ _ _ hs, if_neg hne]
      · rw [put_getD_ge _ _ _ _ hs]
theorem wpAny_flow_aux {R : World → World → Prop} {s : Nat} (hRE : ∀ w w', Ext w w' → R w w') (hRT : ∀ {a b c}, R a b → R b c → R a c) (hs : s < ops.size) {L : List Nat} {F : Tmp → SP} {C : Array Nat} {a0 : Act} {w0 : World} {l0 : Array Bool} (hC : certB ops C = true) (hfit : fitB ops C l0 L = true) (hdeps : depsB ops l0 L = true)
    (hrg : rangeB ops a0.tmps.size = true) (hnd : L.Nodup) (rest : Nat)
    (hmono : ∀ t, (ops[s]?).bind (·.dst) ≠ some t → ∀ u w w', R w w' → (F t).p u w → (F t).p u w')
    (hop : ∀ i ∈ L, ∀ o, ops[i]? = some o → ∀ a w, Known R s ops C L F a0 w0 i a w → Does (if i = s then R else Ext) P ops Q F o a w)
    (hend : ∀ a w, Ends R ops L F a0 w0 a w → wpAny P .any ops Q rest (marked l0 L) a w) :
    ∀ (m : Nat) (l : Array Bool) (a : Act) (w : World), left l L = m → Inv R s ops L F a0 w0 l0 l a w → wpAny P .any ops Q (m + rest) l a w := by
  have hLlt : ∀ i ∈ L, i < ops.size := by
    intro i hi
    simp only [fitB, Bool.and_eq_true, List.all_eq_true] at hfit
    have := hfit.1.1.2 i hi
    simp only [decide_eq_true_eq] at this
    exact this.1
  have hl0s : l0.size = ops.size := by
    simp only [fitB, Bool.and_eq_true, beq_iff_eq] at hfit
    exact hfit.1.1.1
  intro m
  induction m with
  | zero =>
    intro l a w hm h
    have hall : ∀ i ∈ L, l.getD i false = true := by
      intro i hi
      cases hb : l.getD i false with
      | true => rfl
      | false =>
        have := List.countP_eq_zero.1 hm i hi
        rw [hb] at this
        simp at this
    have hl : l = marked l0 L := by
      apply Array.ext
      · rw [marked_size, h.lsize, hl0s]
      · intro j h1 h2
        have hj := marked_getD L l0 (fun i hi => by rw [hl0s]; exact hLlt i hi) j
        have e1 : l.getD j false = l[j] := by rw [Array.getD_eq_getD_getElem?, Array.getElem?_eq_getElem h1, Option.getD_some]
        have e2 : (marked l0 L).getD j false = (marked l0 L)[j] := by rw [Array.getD_eq_getD_getElem?, Array.getElem?_eq_getElem h2, Option.getD_some]
        rw [← e1, ← e2, hj]
        by_cases hjL : j ∈ L
        · simp [hjL, hall j hjL]
        · simp [hjL, h.out j hjL]
    rw [Nat.zero_add, hl]
    refine hend a w ⟨h.ext, h.size, h.defers, fun j hj t ht => h.new j hj (hall j hj) t ht, fun t ht => h.old t fun j hj _ e => ?_⟩
    rw [List.all_eq_true] at ht
    have := ht j hj
    rw [e] at this
    simp at this
  | succ m ih =>
    intro l a w hm h
    have hun : ∃ i ∈ L, l.getD i false = false ∧ ∀ j ∈ L, j < i → l.getD j false = true := by
      rcases unlisted l L with h1 | h1
      · have : left l L = 0 := by
          unfold left
          rw [List.countP_eq_zero]
          intro i hi
          rw [h1 i hi]
          simp
        omega
      · exact h1
    have hready : ∀ i ∈ Region.ready .any ops l, i ∈ L := by
      intro i hi
      obtain ⟨o, ho, hb, hd⟩ := mem_ready' hi h.lsize
      apply Classical.byContradiction
      intro hnL
      obtain ⟨k, hk, hkb, _⟩ := hun
      have hilt : i < ops.size := (Array.getElem?_eq_some_iff.1 ho).1
      have hb0 : l0.getD i false = false := by rw [← h.out i hnL]; exact hb
      have hbit : (C.getD i 0).testBit k = true := by
        simp only [fitB, Bool.and_eq_true, List.all_eq_true] at hfit
        have h1 := hfit.1.2 i (List.mem_range.2 hilt)
        simp only [hb0, Bool.false_or, Bool.or_eq_true, List.contains_iff_mem, hnL, false_or, List.all_eq_true] at h1
        exact h1 k hk
      have := ahead_listed hC h.closed k (hLlt k hk) i hilt (fun o' ho' e he hbb => by rw [ho] at ho'; injection ho' with ho'; subst ho'; exact hd e he hbb) hbit
      rw [this] at hkb
      cases hkb
    have hne : Region.ready .any ops l ≠ [] := by
      obtain ⟨k, hk, hkb, hmin⟩ := hun
      have hklt := hLlt k hk
      have hmem : k ∈ Region.ready .any ops l := by
        refine mem_ready.2 ⟨?_, ops[k], Array.getElem?_eq_getElem hklt, fun e he hb => ?_⟩
        · have hkl : k < l.size := by rw [h.lsize]; exact hklt
          rw [Array.getD_eq_getD_getElem?, Array.getElem?_eq_getElem hkl, Option.getD_some] at hkb ⊢
          exact hkb
        · simp only [depsB, List.all_eq_true] at hdeps
          have h1 := hdeps k hk
          rw [Array.getElem?_eq_getElem hklt] at h1
          simp only [Option.map_some, Option.getD_some, Array.all_eq_true_iff_forall_mem] at h1
          have h2 := h1 e he
          simp only [hb, Bool.not_true, Bool.false_or, Bool.or_eq_true, Bool.and_eq_true, List.contains_iff_mem, decide_eq_true_eq] at h2
          rcases h2 with h2 | ⟨h2, h3⟩
          · by_cases hel : e.on ∈ L
            · have helt := hLlt e.on hel
              simp only [fitB, Bool.and_eq_true, List.all_eq_true] at hfit
              have h4 := hfit.1.1.2 e.on hel
              simp [h2] at h4
            · rw [h.out e.on hel]; exact h2
          · exact hmin e.on h2 h3
      intro hnil
      rw [hnil] at hmem
      cases hmem
    rw [show m + 1 + rest = (m + rest) + 1 from by omega]
    refine wpAny_fuel_ready hne fun i hi => ?_
    have hiL := hready i hi
    obtain ⟨o, ho, hb, hd⟩ := mem_ready' hi h.lsize
    have hilt : i < ops.size := (Array.getElem?_eq_some_iff.1 ho).1
    have hleft : left (l.setIfInBounds i true) L = m := by
      have h1 := left_set l i (by rw [h.lsize]; exact hilt) L hnd hiL hb
      omega
    have hdstlt : ∀ d, o.dst = some d → d < a0.tmps.size := by
      intro d hd'
      simp only [rangeB, Array.all_eq_true_iff_forall_mem] at hrg
      have := hrg o (Array.mem_of_getElem? ho)
      rw [hd'] at this
      simpa using this
    have hknown : Known R s ops C L F a0 w0 i a w := by
      refine ⟨h.ext, fun hes => h.early ?_, h.size, fun t ht => ?_, fun t ht => ?_⟩
      · rcases hes with rfl | hes
        · exact hb
        · cases hls : l.getD s false with
          | false => rfl
          | true =>
            have := ahead_listed hC h.closed i hilt s hs (fun o' ho' e he hbb => h.closed s o' ho' hls e he hbb) hes
            rw [hb] at this; cases this
      · simp only [depB, List.any_eq_true, Bool.and_eq_true, beq_iff_eq] at ht
        obtain ⟨j, hj, hbit, hdst⟩ := ht
        exact h.new j hj (ahead_listed hC h.closed j (hLlt j hj) i hilt (fun o' ho' e he hbb => by rw [ho] at ho'; injection ho' with ho'; subst ho'; exact hd e he hbb) hbit) t hdst
      · refine h.old t fun j hj hlj hdst => ?_
        simp only [oldB, List.all_eq_true] at ht
        have h1 := ht j hj
        simp only [hdst, bne_self_eq_false, Bool.false_or, Bool.or_eq_true, beq_iff_eq] at h1
        rcases h1 with rfl | h1
        · rw [hb] at hlj; cases hlj
        · have hjlt := hLlt j hj
          have := ahead_listed hC h.closed i hilt j hjlt (fun o' ho' e he hbb => h.closed j o' ho' hlj e he hbb) h1
          rw [hb] at this; cases this
    have hdoes := hop i hiL o ho a w hknown
    unfold wpOp
    rw [ho]
    unfold Does at hdoes
    show if Region.wanted o (yielded ops a.tmps) = true then _ else _
    split
    · rename_i hw
      rw [if_pos hw] at hdoes
      refine .inl (Oper.wp_mono (fun a' w' hk => ?_) hdoes)
      obtain ⟨v, rfl, hx, hv⟩ := hk
      have hxR : R w w' := by
        split at hx
        · exact hx
        · exact hRE _ _ hx
      refine ih _ _ _ hleft (h.step hfit hiL ho hd (hRT h.ext hxR) (fun hne => by rw [if_neg hne] at hx; exact hx) (fun t ht u hu => ?_) hv fun d hd' hge => absurd (hdstlt d hd') (Nat.not_lt.2 (h.size ▸ hge)))
      by_cases his : i = s
      · subst his
        exact hmono t (by rw [ho]; exact ht) u _ _ hxR hu
      · rw [if_neg his] at hx
        exact (F t).mono _ _ _ hx hu
    · rename_i hw
      rw [if_neg hw] at hdoes
      exact ih _ _ _ hleft (h.step hfit hiL ho hd h.ext (fun _ => Ext.refl w) (fun t ht u hu => hu) hdoes fun d hd' hge => rfl)
theorem wpAny_flow {R : World → World → Prop} {s : Nat} (hRE : ∀ w w', Ext w w' → R w w') (hRT : ∀ {a b c}, R a b → R b c → R a c) (hs : s < ops.size) {L : List Nat} {F : Tmp → SP} {C : Array Nat} {a0 : Act} {w0 : World} {l0 : Array Bool} (hC : certB ops C = true) (hcl : closedB ops l0 = true) (hfit : fitB ops C l0 L = true) (hdeps : depsB ops l0 L = true)
    (hrg : rangeB ops a0.tmps.size = true) (hnd : L.Nodup) (rest : Nat)
    (hmono : ∀ t, (ops[s]?).bind (·.dst) ≠ some t → ∀ u w w', R w w' → (F t).p u w → (F t).p u w')
    (hop : ∀ i ∈ L, ∀ o, ops[i]? = some o → ∀ a w, Known R s ops C L F a0 w0 i a w → Does (if i = s then R else Ext) P ops Q F o a w)
    (hend : ∀ a w, Ends R ops L F a0 w0 a w → wpAny P .any ops Q rest (marked l0 L) a w) : wpAny P .any ops Q (L.length + rest) l0 a0 w0 := by
  have hl0 : ∀ i ∈ L, l0.getD i false = false := by
    intro i hi
    simp only [fitB, Bool.and_eq_true, List.all_eq_true] at hfit
    have := hfit.1.1.2 i hi
    simp only [Bool.not_eq_true'] at this
    exact this.2
  have hl0s : l0.size = ops.size := by
    simp only [fitB, Bool.and_eq_true, beq_iff_eq] at hfit
    exact hfit.1.1.1
  have hleft : left l0 L = L.length := by
    unfold left
    rw [List.countP_eq_length]
    intro i hi
    rw [hl0 i hi]; rfl
  refine wpAny_flow_aux hRE hRT hs hC hfit hdeps hrg hnd rest hmono hop hend L.length l0 a0 w0 hleft ⟨hRE _ _ (Ext.refl _), fun _ => Ext.refl _, rfl, rfl, hl0s, ?_, fun _ _ => rfl, fun j hj hlj => ?_, fun _ _ => rfl⟩
  · intro j o ho hlj e he hb
    have hjlt : j < ops.size := (Array.getElem?_eq_some_iff.1 ho).1
    simp only [closedB, List.all_eq_true] at hcl
    have h1 := hcl j (List.mem_range.2 hjlt)
    rw [ho] at h1
    simp only [hlj, Bool.not_true, Bool.false_or, Option.map_some, Option.getD_some, Array.all_eq_true_iff_forall_mem, Bool.or_eq_true, Bool.not_eq_true'] at h1
    rcases h1 e he with h2 | h2
    · rw [hb] at h2; cases h2
    · exact h2
  · rw [hl0 j hj] at hlj; cases hlj
theorem wp_region_flow_tail {R : World → World → Prop} {s : Nat} (hRE : ∀ w w', Ext w w' → R w w') (hRT : ∀ {a b c}, R a b → R b c → R a c) (hs : s < ops.size) {id : Nat} {F : Tmp → SP} (C : Array Nat) (m : Nat) {a0 : Act} {w0 : World} (hm : P.follows .mixedOrders = true) (hmn : m ≤ ops.size) (hC : certB ops C = true) (ht : tailB ops C m = true)
    (hfit : fitB ops C (Array.replicate ops.size false) (List.range m) = true) (hdeps : depsB ops (Array.replicate ops.size false) (List.range m) = true) (hrg : rangeB ops a0.tmps.size = true)
    (hmono : ∀ t, (ops[s]?).bind (·.dst) ≠ some t → ∀ u w w', R w w' → (F t).p u w → (F t).p u w')
    (hop : ∀ i, i < m → ∀ o, ops[i]? = some o → ∀ a w, Known R s ops C (List.range m) F a0 { w0 with drawn := w0.drawn + 1 } i a w → Does (if i = s then R else Ext) P ops Q F o a w)
    (hend : ∀ a w, Ends R ops (List.range m) F a0 { w0 with drawn := w0.drawn + 1 } a w → wpList P ops Q (ops.toList.drop m) a w) : (Code.region id ops true).wp P Q a0 w0 := by
  refine wp_region_any hm ?_
  have h := wpAny_flow hRE hRT hs (P := P) (Q := Q) (ops := ops) (L := List.range m) (F := F) (C := C) (a0 := a0) (w0 := { w0 with drawn := w0.drawn + 1 }) (l0 := Array.replicate ops.size false) hC ?_ hfit hdeps hrg List.nodup_range (ops.size - m) hmono
    (fun i hi o ho a w hk => hop i (List.mem_range.1 hi) o ho a w hk) ?_
  · simpa [show m + (ops.size - m) = ops.size from by omega] using h
  · simp only [closedB, List.all_eq_true]
    intro j _
    have : (Array.replicate ops.size false).getD j false = false := by
      rw [Array.getD_eq_getD_getElem?, Array.getElem?_replicate]
      split <;> rfl
    rw [this]; rfl
  · intro a w he
    rw [marked_range _ _ hmn]
    exact wpAny_tail hC ht _ m (by omega) (Nat.le_refl _) a w (hend a w he)
theorem Ends.out {R : World → World → Prop} {L : List Nat} {F : Tmp → SP} {a0 : Act} {w0 : World} {a : Act} {w : World} (h : Ends R ops L F a0 w0 a w) (ds : List Nat) (hd : (L.filterMap fun j => (ops[j]?).bind (·.dst)) = ds) :
    ∃ us : Nat → Value, a = ⟨(fillL ds us 0 a0.tmps.toList).toArray, a0.defers⟩ ∧ ∀ t ∈ ds, (F t).p (us t) w := by
  refine ⟨fun t => a.tmps.getD t undef, ?_, fun t ht => ?_⟩
  · obtain ⟨tmps, defers⟩ := a
    have h1 := h.size
    have h2 := h.defers
    have h3 := h.old
    simp only at h1 h2 h3
    subst h2
    congr 1
    apply Array.ext
    · simp [fillL_length, h1]
    · intro j j1 j2
      have e : (fillL ds (fun t => tmps.getD t undef) 0 a0.tmps.toList)[j]? = some tmps[j] := by
        rw [fillL_get, Nat.zero_add]
        have hj : j < a0.tmps.size := by rw [← h1]; exact j1
        rw [Array.getElem?_toList, Array.getElem?_eq_getElem hj, Option.map_some]
        have e1 : tmps.getD j undef = tmps[j] := by rw [Array.getD_eq_getD_getElem?, Array.getElem?_eq_getElem j1, Option.getD_some]
        by_cases hc : ds.contains j = true
        · rw [if_pos hc, e1]
        · rw [if_neg hc]
          have h4 := h3 j (by
            rw [List.all_eq_true]
            intro q hq
            rw [bne_iff_ne]
            intro he
            apply hc
            rw [List.contains_iff_mem, ← hd]
            exact List.mem_filterMap.2 ⟨q, hq, he⟩)
          rw [e1, Array.getD_eq_getD_getElem?, Array.getElem?_eq_getElem hj, Option.getD_some] at h4
          rw [h4]
      rw [List.getElem_toArray]
      have := (List.getElem?_eq_some_iff.1 e).2
      exact this.symm
  · rw [← hd] at ht
    obtain ⟨j, hj, hjd⟩ := List.mem_filterMap.1 ht
    exact h.new j hj t hjd
def OpsDo (R : World → World → Prop) (s : Nat) (P : Program) (ops : Array Oper) (Q : Exit → Act → World → Prop) (C : Array Nat) (L : List Nat) (F : Tmp → SP) (a0 : Act) (w0 : World) : Nat → List Oper → Prop
  | _, [] => True
  | i, o :: l => (∀ a w, Known R s ops C L F a0 w0 i a w → Does (if i = s then R else Ext) P ops Q F o a w) ∧ OpsDo R s P ops Q C L F a0 w0 (i + 1) l
theorem OpsDo.at_ {R : World → World → Prop} {s : Nat} {C : Array Nat} {L : List Nat} {F : Tmp → SP} {a0 : Act} {w0 : World} : ∀ (l : List Oper) (k : Nat), OpsDo R s P ops Q C L F a0 w0 k l → ∀ i o, l[i]? = some o → ∀ a w, Known R s ops C L F a0 w0 (k + i) a w → Does (if k + i = s then R else Ext) P ops Q F o a w
  | [], _, _, i, o, h => by simp at h
  | x :: l, k, h, 0, o, ho => by
    intro a w hk
    obtain rfl : x = o := by simpa using ho
    exact h.1 a w hk
  | x :: l, k, h, i + 1, o, ho => by
    intro a w hk
    have := OpsDo.at_ l (k + 1) h.2 i o (by simpa using ho) a w (by rw [Nat.add_right_comm]; exact hk)
    rw [Nat.add_right_comm] at this; exact this
theorem wp_region_flow_l {R : World → World → Prop} (s : Nat) (hRE : ∀ w w', Ext w w' → R w w') (hRT : ∀ {a b c}, R a b → R b c → R a c) {id : Nat} (F : Tmp → SP) (m : Nat) {a0 : Act} {w0 : World} (hm : P.follows .mixedOrders = true) (n : Nat) (hn : a0.tmps.size = n) (hB : flowB ops m n = true)
    (hs : s < ops.size) (hmono : ∀ t, (ops[s]?).bind (·.dst) ≠ some t → ∀ u w w', R w w' → (F t).p u w → (F t).p u w')
    (hop : OpsDo R s P ops Q (Region.before ops) (List.range m) F a0 w0.drew 0 (ops.toList.take m))
    (hend : ∀ a w, Ends R ops (List.range m) F a0 w0.drew a w → wpList P ops Q (ops.toList.drop m) a w) : (Code.region id ops true).wp P Q a0 w0 := by
  simp only [flowB, Bool.and_eq_true, decide_eq_true_eq] at hB
  obtain ⟨⟨⟨⟨⟨h1, h2⟩, h3⟩, h4⟩, h5⟩, h6⟩ := hB
  exact wp_region_flow_tail hRE hRT hs (Region.before ops) m hm h1 h2 h3 h4 h5 (by rw [hn]; exact h6) hmono (fun i hi o ho a w hk => by have := OpsDo.at_ (ops.toList.take m) 0 hop i o (by rw [List.getElem?_take]; simpa [hi] using ho) a w (by rw [Nat.zero_add]; exact hk); rw [Nat.zero_add] at this; exact this) hend
theorem does_intro {Rl : World → World → Prop} {F : Tmp → SP} {o : Oper} {a : Act} {w : World} (hg : Region.wanted o (yielded ops a.tmps) = true)
    (h : ∀ K : Act → World → Prop, (∀ v w', Rl w w' → (∀ d, o.dst = some d → (F d).p v w') → K (a.put o.dst v) w') → o.wp P a w K Q) : Does Rl P ops Q F o a w := by
  unfold Does
  rw [if_pos hg]
  exact h _ fun v w' h1 h2 => ⟨v, rfl, h1, h2⟩
end FlowS
end Go.Proofs.Ytgkgedjmnbjalaa

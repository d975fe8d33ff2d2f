/- The rule for regions that draw their order, in the body of a range over a function.
   Conditions: none; plain theorems on the model's own region rule. -/
import Derived.OrdersIn
import Derived.RangeFuncCalls
import Derived.OwnWalkIn
import Derived.Tactics
import Derived.TacticsIn
import Derived.Test.YtgkgedjmnbjalaaFlow
namespace Go.Proofs.Ytgkgedjmnbjalaa
open Go.RowKit
namespace Flow
variable {P : Program} {ops : Array Oper} {Q : Exit → Act → World → Prop}

theorem opIn_of_wp {l n : Nat} {o : Oper} (hd : ∀ c, o.op ≠ .defer c) {a : Act} {w : World} {K : Act → World → Prop} (h : o.wp P a w K Q) : o.wpIn (Fence.wide.inRound l) n P a w K Q := by
  refine ⟨fun _ _ => trivial, ?_⟩
  rw [Oper.semAt_plain (Fence.wide.inRound l) a.eval o hd]
  unfold Oper.wp at h
  generalize (execOp a.eval o).run P w = r at *
  cases r with
  | ok x w' =>
    cases x with
    | value v => exact h
    | skip => exact h
    | defer d => exact h
    | enter f args => exact ⟨fun h' => (by cases h'), CallsIn.inRound l (callsIn_wide.2 h)⟩
    | row row args => exact ⟨fun h' => (by cases h'), fun c cs _ => by obtain ⟨v, w2, r, s⟩ := h c cs; exact ⟨v, w2, r, stepsIn_wide.2 s⟩⟩
    | _ => exact h.elim
  | halt x w' => cases x <;> first | exact h | exact h.elim
/-- No operation defers a call. -/
def plainB (ops : Array Oper) : Bool := ops.all fun o => match o.op with | .defer _ => false | _ => true
theorem plain_of {i : Nat} {o : Oper} (h : plainB ops = true) (ho : ops[i]? = some o) : ∀ c, o.op ≠ .defer c := by
  intro c hc
  obtain ⟨hi, rfl⟩ := Array.getElem?_eq_some_iff.1 ho
  have := (Array.all_eq_true.1 h) i hi
  rw [hc] at this
  cases this
theorem anyIn_of_any {l n : Nat} (hp : plainB ops = true) (hQ : ¬ LetsOut Q) : ∀ (fuel : Nat) (listed : Array Bool) (a : Act) (w : World), wpAny P .any ops Q fuel listed a w → wpAnyIn (Fence.wide.inRound l) n P .any ops Q fuel listed a w
  | 0, listed, a, w, h => h
  | fuel + 1, listed, a, w, h => by
    refine ⟨h.1, fun i hi => ?_⟩
    have h2 := h.2 i hi
    unfold wpOp at h2
    unfold wpOpIn
    cases ho : ops[i]? with
    | none => simp only [ho] at h2 ⊢; exact anyIn_of_any hp hQ fuel _ _ _ h2
    | some o =>
      simp only [ho] at h2 ⊢
      by_cases hw : Region.wanted o (yielded ops a.tmps) = true
      · rw [if_pos hw] at h2 ⊢
        rcases h2 with h2 | h2
        · exact Oper.wpIn_mono (fun a' w' h3 => anyIn_of_any hp hQ fuel _ _ _ h3) (opIn_of_wp (plain_of hp ho) h2)
        · exact absurd h2.2 hQ
      · rw [if_neg hw] at h2 ⊢
        exact ⟨fun _ _ => trivial, anyIn_of_any hp hQ fuel _ _ _ h2⟩
/-- A row of operations, in a round. -/
theorem listIn_of_list {l n : Nat} (hQ : ¬ LetsOut Q) : ∀ (os : List Oper) (_ : (os.all fun o => match o.op with | .defer _ => false | _ => true) = true) (a : Act) (w : World), wpList P ops Q os a w → wpListIn (Fence.wide.inRound l) n P ops Q os a w
  | [], _, a, w, h => h
  | o :: os, hp, a, w, h => by
    simp only [List.all_cons, Bool.and_eq_true] at hp
    have hd : ∀ c, o.op ≠ .defer c := by
      intro c hc
      have := hp.1
      rw [hc] at this
      cases this
    unfold wpList at h
    unfold wpListIn
    by_cases hw : Region.wanted o (yielded ops a.tmps) = true
    · rw [if_pos hw] at h ⊢
      rcases h with h | h
      · exact Oper.wpIn_mono (fun a' w' h3 => listIn_of_list hQ os hp.2 _ _ h3) (opIn_of_wp hd h)
      · exact absurd h.2 hQ
    · rw [if_neg hw] at h ⊢
      exact ⟨fun _ _ => trivial, listIn_of_list hQ os hp.2 _ _ h⟩
/-- A region that draws no order, in a round. -/
theorem wpIn_region_plain {l n : Nat} (hQ : ¬ LetsOut Q) {id : Nat} {os : List Oper} (hp : (os.all fun o => match o.op with | .defer _ => false | _ => true) = true) {a : Act} {w : World} (h : wpList P os.toArray Q os a w) : (Code.region id os.toArray false).wpIn (Fence.wide.inRound l) n P Q a w :=
  wpIn_region_lit (listIn_of_list hQ os hp a w h)
theorem wpAny_flow_tail (C : Array Nat) (m : Nat) {F : Tmp → SP} {a0 : Act} {w0 : World} (hmn : m ≤ ops.size) (hC : certB ops C = true) (ht : tailB ops C m = true)
    (hfit : fitB ops C (Array.replicate ops.size false) (List.range m) = true) (hdeps : depsB ops (Array.replicate ops.size false) (List.range m) = true) (hrg : rangeB ops a0.tmps.size = true)
    (hop : ∀ i, i < m → ∀ o, ops[i]? = some o → ∀ a w, Known ops C (List.range m) F a0 { w0 with drawn := w0.drawn + 1 } i a w → Does P ops Q F o a w)
    (hend : ∀ a w, Ends ops (List.range m) F a0 { w0 with drawn := w0.drawn + 1 } a w → wpList P ops Q (ops.toList.drop m) a w) : wpAny P .any ops Q ops.size (Array.replicate ops.size false) a0 { w0 with drawn := w0.drawn + 1 } := by
  have h := wpAny_flow (P := P) (Q := Q) (ops := ops) (L := List.range m) (F := F) (C := C) (a0 := a0) (w0 := { w0 with drawn := w0.drawn + 1 }) (l0 := Array.replicate ops.size false) hC ?_ hfit hdeps hrg List.nodup_range (ops.size - m)
    (fun i hi o ho a w hk => hop i (List.mem_range.1 hi) o ho a w hk) ?_
  · simpa [show m + (ops.size - m) = ops.size from by omega] using h
  · simp only [closedB, List.all_eq_true]
    intro j _
    have : (Array.replicate ops.size false).getD j false = false := by
      rw [Array.getD_eq_getD_getElem?, Array.getElem?_replicate]
      split <;> rfl
    rw [this]; rfl
  · intro a w he
    rw [marked_range _ _ hmn]
    exact wpAny_tail hC ht _ m (by omega) (Nat.le_refl _) a w (hend a w he)
/-- The flow rule, in a round. -/
theorem wpIn_region_flow_l {l k : Nat} (hQ : ¬ LetsOut Q) {id : Nat} (F : Tmp → SP) (m : Nat) {a0 : Act} {w0 : World} (hm : P.follows .mixedOrders = true) (hp : plainB ops = true) (n : Nat) (hn : a0.tmps.size = n) (hB : flowB ops m n = true)
    (hop : OpsDo P ops Q (Region.before ops) (List.range m) F a0 w0.drew 0 (ops.toList.take m))
    (hend : ∀ a w, Ends ops (List.range m) F a0 w0.drew a w → wpList P ops Q (ops.toList.drop m) a w) : (Code.region id ops true).wpIn (Fence.wide.inRound l) k P Q a0 w0 := by
  simp only [flowB, Bool.and_eq_true, decide_eq_true_eq] at hB
  obtain ⟨⟨⟨⟨⟨h1, h2⟩, h3⟩, h4⟩, h5⟩, h6⟩ := hB
  exact wpIn_region_any hm (anyIn_of_any hp hQ _ _ _ _ (wpAny_flow_tail (Region.before ops) m h1 h2 h3 h4 h5 (by rw [hn]; exact h6) (fun i hi o ho a w hk => OpsDo.at_ (ops.toList.take m) 0 hop i o (by rw [List.getElem?_take]; simpa [hi] using ho) a w (by rw [Nat.zero_add]; exact hk)) hend))
end Flow
end Go.Proofs.Ytgkgedjmnbjalaa

/- Texts that the law needs, joined.
   Conditions: none. -/
import Derived.Test.YtgkgedjmnbjalaaZeE
import Derived.Test.YtgkgedjmnbjalaaZeC
import Derived.Test.YtgkgedjmnbjalaaZeD
import Derived.RangeFuncNested
import Derived.RangeFuncBound
import Derived.RangeFuncCalls
import Derived.RangeFuncLeaves
import Derived.Shelf.Abstract
import Derived.Shelf.RegionOpen
import Derived.WalkKit
import Derived.OwnWalkIn
import Derived.TacticsInMore
import Derived.LoopNIn
import Derived.LoopIn
import Derived.Test.YtgkgedjmnbjalaaZeA
import Derived.Laws.Cover1
set_option linter.unusedSimpArgs false
set_option linter.unusedVariables false
namespace Go.Proofs.Ytgkgedjmnbjalaa
open Go.RowKit Go.Sort
def spE (es : List E) : SP := ⟨fun v w => ∃ A c, v = .slice A es.length c ∧ ERow (fun _ => True) w A es c, fun _ _ _ h ⟨A, c, e, hr⟩ => ⟨A, c, e, hr.ext h⟩⟩
end Go.Proofs.Ytgkgedjmnbjalaa
set_option linter.unusedSimpArgs false
set_option linter.unusedVariables false
namespace Go.Proofs.Ytgkgedjmnbjalaa
open Go.RowKit Go.Sort Go.Shelf
attribute [local go_sem] Oper.semAt_some
def EdAt (w0 : World) (es : List E) : Type := { x : Nat × E × List Value // es[x.1]? = some x.2.1 ∧ RE (· < w0.heap.size) w0 x.2.1 x.2.2 }
def EdAt.enc {w0 : World} {es : List E} (x : EdAt w0 es) : Array Value := #[.int .i64 (x.1.1 : Int), .agg x.1.2.2.toArray]
def Kb (B Bs : Nat) (W W' : World) : Prop := Below B W W' ∧ ∀ cs t, Blk W Bs cs t → Blk W' Bs cs t
theorem Kb.trans {B Bs : Nat} {X Y Z : World} (h : Kb B Bs X Y) (k : Kb B Bs Y Z) : Kb B Bs X Z := ⟨h.1.trans k.1, fun cs t hb => k.2 cs t (h.2 cs t hb)⟩
set_option maxRecDepth 100000 in
set_option maxHeartbeats 4000000 in
theorem back1_in (F : Fence) (n : Nat) (h142 : F.fn 142) (hro : F.round = none) (hn : 1 ≤ n) (l Bs : Nat) (w0 : World) (A : Option Addr) (c : Nat) (es : List E) (hrow : ERow (· < w0.heap.size) w0 A es c) (J Jx : List (EdAt w0 es) → World → Prop)
    (hY : ∀ pre x W, J pre W → pre.length < es.length → YieldAt F (n - 1) Try.prog l x.enc W fun e W' =>
      (e = .returned (.bool true) ∧ J (pre ++ [x]) W' ∧ Kb w0.heap.size Bs W W') ∨ (e = .returned (.bool false) ∧ Jx (pre ++ [x]) W'))
    (W : World) (hx : Ext w0 W) (hBs : Blk W Bs [.slice A es.length c] 57) (h0 : J [] W) :
    CallsIn F n Try.prog 142 #[.func (.yield l) #[] #[], .pointer (some ⟨Bs, 0, none⟩)] W fun e W' => (∃ v, e = .returned v) ∧
      ((∃ ys : List (EdAt w0 es), ys.map (·.1.2.1) = es.reverse ∧ J ys W') ∨ (∃ pre : List (EdAt w0 es), True ∧ Jx pre W')) := by
  have hlen := hrow.len
  have kr := Hd.mk hrow
  have kx := Hd.mk hx
  have kY := Hd.mk hY
  have kB := Hd.mk hBs
  have gB := hBs.cell 0
  simp only [List.getElem?_cons_zero] at gB
  have k0 := Hd.mk h0
  clear hrow hx hY hBs h0
  refine callsIn_of_wp Try.func142 rfl h142 ?_ hro
  simp only [Try.ntmps142, List.size_toArray, List.length_cons, List.length_nil, Nat.reduceAdd, Nat.reduceSub, Array.replicate_succ, Array.replicate_zero, List.push_toArray, List.append_toArray, List.nil_append, List.cons_append]
  gi_wp2
  clear gB
  gi_loopw [3] (fun i wr => ∃ (k : Nat) (ys : List (EdAt w0 es)), k ≤ es.length ∧ i = .int .i64 ((k : Int) - 1) ∧ Hd (ys.length + k = es.length ∧ ys.map (·.1.2.1) = (es.drop k).reverse ∧ J ys wr ∧ Ext w0 wr ∧ Blk wr Bs [.slice A es.length c] 57))
    (fun i _ => (intOf i + 1).toNat)
  case atStart => exact ⟨es.length, [], Nat.le_refl _, by go_num, ⟨by simp, by simp, k0.out, kx.out, kB.out⟩⟩
  case round =>
    obtain ⟨k, ys, hk, rfl, hI⟩ := hrel
    cases k with
    | zero =>
      obtain ⟨hl, hm, hJ, _, _⟩ := hI.out
      gi_wp2
      go_end0
      exact ⟨⟨_, rfl⟩, .inl ⟨ys, by simpa using hm, hJ⟩⟩
    | succ m =>
      have hm1 : ((m + 1 : Nat) : Int) - 1 = (m : Int) := by omega
      rw [hm1]
      have hlt : m < es.length := hk
      have hxe := List.getElem?_eq_getElem hlt
      have hdrop : es.drop m = es[m] :: es.drop (m + 1) := List.drop_eq_getElem_cons hlt
      generalize es[m] = x at hxe hdrop
      obtain ⟨b1, o1, ck, rfl, hS, hrk, hck⟩ := kr.out.edit m x hxe
      obtain ⟨fn, tmps, assign, body, hy, hR⟩ := kY.out ys ⟨(m, x, ck), hxe, hrk⟩ wr hI.out.2.2.1 (by have := hI.out.1; omega)
      have hR := Hd.mk hR
      have hrk2 := hrk
      obtain ⟨A1, a1, K3, k3, L3, l3, rfl, _⟩ := hrk2
      obtain ⟨e0, e1, e2, e3, e4, e5, e6, e7, e8, e9, e10, e11, e12, e13⟩ := c14C hI.out.2.2.2.1 hck
      have lt1 := World.block_lt_of_cell? wr _ e0
      have gB := (hI.out.2.2.2.2).cell 0
      simp only [List.getElem?_cons_zero] at gB
      simp only [EdAt.enc, cT, List.cons_append, List.nil_append] at hy
      have hrk := Hd.mk hrk
      have hxe' := Hd.mk hxe
      have hdrop := Hd.mk hdrop
      clear hck hS
      gi_wp2
      clear e0 e1 e2 e3 e4 e5 e6 e7 e8 e9 e10 e11 e12 e13 gB
      refine hR.out.mono ?_
      rintro e W3 (⟨rfl, hJ3, hk3⟩ | ⟨rfl, hJx3⟩)
      · have hJ3 := Hd.mk hJ3
        have hk3 := Hd.mk hk3
        clear hy
        gi_wp2
        go_roundw
        case rel => exact ⟨m, _, by omega, by go_num, ⟨by have := hI.out.1; rw [List.length_append]; show ys.length + (0 + 1) + m = es.length; omega, by have := hI.out.2.1; rw [List.map_append, this, hdrop.out, List.reverse_cons]; rfl, hJ3.out, Below.trans (hI.out.2.2.2.1) hk3.out.1, hk3.out.2 _ _ hI.out.2.2.2.2⟩⟩
        case measure => simp [intOf]
      · have hJx3 := Hd.mk hJx3
        clear hy
        gi_wp2
        refine bodyPost_ret (results_none rfl _ _ _) rfl ?_
        exact ⟨⟨_, rfl⟩, .inr ⟨_, trivial, hJx3.out⟩⟩
set_option maxHeartbeats 1000000 in
theorem back_in (F : Fence) (n : Nat) (h102 : F.fn 102) (hro : F.round = none) (A : Option Addr) (len cap : Nat) (w : World) :
    CallsIn F n Try.prog 102 #[.slice A len cap] w fun e w' => e = .returned (.func (.func 142) #[] #[.pointer (some ⟨w.heap.size, 0, none⟩)]) ∧ w' = w.alloc (.cells #[.slice A len cap] 57) := by
  refine callsIn_of_wp Try.func102 rfl h102 ?_ hro
  simp only [Try.ntmps102, List.size_toArray, List.length_cons, List.length_nil, Nat.reduceAdd, Nat.reduceSub, Array.replicate_succ, Array.replicate_zero, List.push_toArray, List.append_toArray, List.nil_append, List.cons_append]
  gi_wp2
  go_ret
  exact ⟨rfl, rfl⟩
theorem back_stops (F : Fence) (n : Nat) (h142 : F.fn 142) (hro : F.round = none) (hn : 1 ≤ n) (Bs : Nat) (w0 w : World) (A : Option Addr) (c : Nat) (es : List E) (hrow : ERow (· < w0.heap.size) w0 A es c) (hx : Ext w0 w) (hBs : Blk w Bs [.slice A es.length c] 57) :
    SeqStopsK F n Try.prog 142 #[.pointer (some ⟨Bs, 0, none⟩)] (EdAt.enc (w0 := w0) (es := es)) (Kb w0.heap.size Bs) (fun ys => ys.map (·.1.2.1) = es.reverse) (fun _ => True) es.length w := fun l J Jx W hW _ _ hY h0 =>
  back1_in F n h142 hro hn l Bs w0 A c es hrow J Jx hY W (hx.trans hW) (hBs.ext hW) h0
end Go.Proofs.Ytgkgedjmnbjalaa
set_option linter.unusedSimpArgs false
set_option linter.unusedVariables false
namespace Go.Proofs.Ytgkgedjmnbjalaa
open Go.RowKit Go.Sort Go.Shelf
attribute [local go_sem] Oper.semAt_some
def inv1 (e : E) : List E := if e.kind = 1 then [⟨2, e.way, zeroT, e.node⟩] else if e.kind = 2 then [⟨1, e.way, e.old, zeroT⟩] else if e.kind = 3 then [⟨3, e.way, e.old, e.node⟩] else []
def inverse (es : List E) : List E := es.reverse.flatMap inv1
theorem inv1_len (e : E) : (inv1 e).length ≤ 1 := by unfold inv1; split; · simp
                                                     · split; · simp
                                                       · split <;> simp
theorem inverse_len' : ∀ l : List E, (l.flatMap inv1).length ≤ l.length
  | [] => by simp
  | e :: l => by have := inverse_len' l; have := inv1_len e; simp only [List.flatMap_cons, List.length_append, List.length_cons]; omega
theorem inverse_len (es : List E) : (inverse es).length ≤ es.length := by have := inverse_len' es.reverse; simpa [inverse] using this
section
variable {F : Fence} {n : Nat} {P : Program} {ops : Array Oper} {rest : List Oper} {a : Act} {w : World} {Q : Exit → Act → World → Prop}
theorem stopIn_at (op : Op) {d : Option Tmp} {p1 : TypeId} {p2 : String} {p3 : Array Edge} {gd : Option (Nat × Bool)} (h : Stop (wpListIn F n P ops Q (⟨d, op, p1, p2, p3, gd⟩ :: rest) a w)) : wpListIn F n P ops Q (⟨d, op, p1, p2, p3, gd⟩ :: rest) a w := h.out
end
theorem fr_keeps {N B O : Nat} {W V : World} {v v' : Value} {css : List (List Value)} {es : List E} (hI2 : Outs B O W v css es) (hf : Fr O W v V v') : KeepsFrom N W V :=
  ⟨hf.size, fun k o _ hk ho => by
    by_cases h1 : k = O
    · subst h1
      have hb := hI2.box
      unfold Blk at hb
      rw [hb] at hk
      cases hk
      cases ho
    · by_cases h2 : v.ownBlock = some k
      · rcases hI2.own.2 with ⟨h3, _⟩ | ⟨g, cap, cur, hv, _, hgb, _⟩
        · rw [h3] at h2; cases h2
        · rw [hv] at h2
          simp only [Value.ownBlock, Option.some.injEq] at h2
          subst h2
          rw [hgb] at hk
          cases hk
          cases ho
      · exact (hf.block k (heap_lt hk) h1 h2).trans hk⟩
theorem fr_kb {B : Nat} {W V : World} {v v' : Value} {css : List (List Value)} {es : List E} (h : Outs B B W v css es) (hne : v.ownBlock ≠ some (B + 1)) (hf : Fr B W v V v') : Kb B (B + 1) W V :=
  ⟨hf.below (Nat.le_refl _) (Nat.le_of_lt h.box.lt) h.base, fun cs t hb => hf.blk hb (by omega) hne⟩
theorem Outs.other {B O : Nat} {W W' : World} {v : Value} {css : List (List Value)} {es : List E} {row : Option Nat} (h : Outs B O W v css es) (hg : W.grownBy W' row) (hr : ∀ r, row = some r → ∃ o : Obj, W.heap[r]? = some o ∧ o.isCells = false) : Outs B O W' v css es := by
  have hc : ∀ b off (u : Value), W.cell? ⟨b, off, none⟩ = some u → W'.cell? ⟨b, off, none⟩ = some u := fun b off u hu => cell_kept hu hg hr
  refine ⟨grownBy_blk' hg (fun e => ?_) h.box, h.ob, h.len, h.c14, h.own.kept hg ?_, fun i e c he hc' => (h.each i e c he hc').keep (fun b off u hb hu => ⟨hb, hc b off u hu⟩), h.ne⟩
  · obtain ⟨o, ho, hcc⟩ := hr O e.symm
    have hb := h.box
    unfold Blk at hb
    rw [hb] at ho
    cases ho
    cases hcc
  · rcases h.own.2 with ⟨h1, _⟩ | ⟨g, cap, cur, hv, _, hgb, _⟩
    · left; rw [h1]; rfl
    · right
      intro e
      rw [hv] at e
      obtain ⟨o, ho, hcc⟩ := hr g (by rw [← e]; rfl)
      rw [hgb] at ho
      cases ho
      cases hcc
end Go.Proofs.Ytgkgedjmnbjalaa
set_option linter.unusedSimpArgs false
set_option linter.unusedVariables false
namespace Go.Proofs.Ytgkgedjmnbjalaa
open Go.RowKit Go.Sort
theorem by_asymm : ∀ x y : List UInt8, Op.bytesLess x y = true → Op.bytesLess y x = false
  | [], [], h => by simp [Op.bytesLess] at h
  | [], b :: y, _ => rfl
  | a :: x, [], h => by simp [Op.bytesLess] at h
  | a :: x, b :: y, h => by
    simp only [Op.bytesLess, Bool.or_eq_true, decide_eq_true_eq, Bool.and_eq_true, Bool.or_eq_false_iff, decide_eq_false_iff_not, Bool.and_eq_false_iff] at h ⊢
    rcases h with h | ⟨h1, h2⟩
    · refine ⟨UInt8.not_lt.2 (UInt8.le_of_lt h), .inl (by simp; intro e; subst e; exact absurd h (UInt8.lt_irrefl _))⟩
    · simp at h1
      subst h1
      exact ⟨UInt8.lt_irrefl _, .inr (by_asymm x y h2)⟩
theorem by_anti : ∀ x y : List UInt8, Op.bytesLess x y = false → Op.bytesLess y x = false → x = y
  | [], [], _, _ => rfl
  | [], b :: y, h, _ => by simp [Op.bytesLess] at h
  | a :: x, [], _, h => by simp [Op.bytesLess] at h
  | a :: x, b :: y, h, k => by
    simp only [Op.bytesLess, Bool.or_eq_false_iff, decide_eq_false_iff_not, Bool.and_eq_false_iff] at h k
    have hab : a = b := UInt8.le_antisymm (UInt8.not_lt.1 k.1) (UInt8.not_lt.1 h.1)
    subst hab
    have h2 : Op.bytesLess x y = false := by simpa using h.2
    have k2 : Op.bytesLess y x = false := by simpa using k.2
    rw [by_anti x y h2 k2]
theorem by_trans : ∀ x y z : List UInt8, Op.bytesLess x y = true → Op.bytesLess y z = true → Op.bytesLess x z = true
  | _, [], z, h, _ => by simp [Op.bytesLess] at h
  | x, b :: y, [], _, k => by simp [Op.bytesLess] at k
  | [], b :: y, c :: z, _, _ => rfl
  | a :: x, b :: y, c :: z, h, k => by
    simp only [Op.bytesLess, Bool.or_eq_true, decide_eq_true_eq, Bool.and_eq_true] at h k ⊢
    rcases h with h | ⟨h1, h2⟩
    · rcases k with k | ⟨k1, k2⟩
      · exact .inl (UInt8.lt_trans h k)
      · simp at k1; subst k1; exact .inl h
    · simp at h1
      subst h1
      rcases k with k | ⟨k1, k2⟩
      · exact .inl k
      · simp at k1; subst k1; exact .inr ⟨by simp, by_trans x y z h2 k2⟩
theorem ltB_asymm {a b : ByteArray} (h : ltB a b = true) : ltB b a = false := by_asymm _ _ h
theorem ltB_trans {a b c : ByteArray} (h : ltB a b = true) (k : ltB b c = true) : ltB a c = true := by_trans _ _ _ h k
theorem ltB_eq {a b : ByteArray} (h : ltB a b = false) (k : ltB b a = false) : a = b := of_decide_eq_true (by rw [← str_eq, by_anti _ _ h k]; exact beq_self_eq_true _)
theorem lessT_irr (x : T) : lessT x x = false := by simp [lessT, ltB_irr]
theorem lessT_asymm {x y : T} (h : lessT x y = true) : lessT y x = false := by
  simp only [lessT, Bool.or_eq_true, Bool.and_eq_true, decide_eq_true_eq, Bool.or_eq_false_iff, Bool.and_eq_false_iff, decide_eq_false_iff_not] at h ⊢
  rcases h with h | ⟨h1, h2⟩
  · exact ⟨ltB_asymm h, .inl (fun e => by rw [e, ltB_irr] at h; cases h)⟩
  · exact ⟨by rw [h1]; exact ltB_irr _, .inr (ltB_asymm h2)⟩
theorem lessT_trans {x y z : T} (h : lessT x y = true) (k : lessT y z = true) : lessT x z = true := by
  simp only [lessT, Bool.or_eq_true, Bool.and_eq_true, decide_eq_true_eq] at h k ⊢
  rcases h with h | ⟨h1, h2⟩
  · rcases k with k | ⟨k1, k2⟩
    · exact .inl (ltB_trans h k)
    · exact .inl (by rw [← k1]; exact h)
  · rcases k with k | ⟨k1, k2⟩
    · exact .inl (by rw [h1]; exact k)
    · exact .inr ⟨h1.trans k1, ltB_trans h2 k2⟩
theorem lessT_step {x y z : T} (h : stepT x = stepT y) : lessT x z = lessT y z ∧ lessT z x = lessT z y := by
  have h1 : x.name = y.name := congrArg Prod.fst h
  have h2 : x.key = y.key := congrArg Prod.snd h
  exact ⟨by unfold lessT; rw [h1, h2], by unfold lessT; rw [h1, h2]⟩
theorem step_of_less {x y : T} (h : lessT x y = false) (k : lessT y x = false) : stepT x = stepT y := by
  simp only [lessT, Bool.or_eq_false_iff, Bool.and_eq_false_iff, decide_eq_false_iff_not] at h k
  have hn := ltB_eq h.1 k.1
  have h2 : ltB x.key y.key = false := by
    rcases h.2 with h' | h'
    · exact absurd hn h'
    · exact h'
  have k2 : ltB y.key x.key = false := by
    rcases k.2 with h' | h'
    · exact absurd hn.symm h'
    · exact h'
  exact Prod.ext hn (ltB_eq h2 k2)
mutual
theorem sameT_rfl : ∀ t : T, sameT t t = true
  | .mk n k d m t l => by rw [sameT_mk]; simp [sameL_rfl l]
theorem sameL_rfl : ∀ l : List T, sameL l l = true
  | [] => rfl
  | x :: l => by rw [sameL, sameT_rfl x, sameL_rfl l]; rfl
end
mutual
theorem sameT_to : ∀ a b : T, sameT a b = true → a = b
  | .mk n k d m t l, .mk n' k' d' m' t' l', h => by
    rw [sameT_mk] at h
    simp only [Bool.and_eq_true, decide_eq_true_eq] at h
    obtain ⟨⟨⟨h1, h2⟩, ⟨h3, h4⟩, h5⟩, h6⟩ := h
    rw [h1, h2, h3, h4, h5, sameL_to l l' h6]
theorem sameL_to : ∀ l m : List T, sameL l m = true → l = m
  | [], [], _ => rfl
  | x :: l, y :: m, h => by
    rw [sameL, Bool.and_eq_true] at h
    rw [sameT_to x y h.1, sameL_to l m h.2]
  | [], y :: m, h => by simp [sameL] at h
  | x :: l, [], h => by simp [sameL] at h
end
theorem sameT_iff {a b : T} : sameT a b = true ↔ a = b := ⟨sameT_to a b, fun h => by rw [h]; exact sameT_rfl b⟩
theorem sameT_comm (a b : T) : sameT a b = sameT b a := by
  cases h : sameT a b with
  | true => rw [sameT_iff.1 h, sameT_rfl]
  | false =>
    cases k : sameT b a with
    | false => rfl
    | true => rw [sameT_iff.1 k, sameT_rfl] at h; cases h
theorem mergeE_self {one other : T → List E} {both : T → T → List E} (h : ∀ x, both x x = []) : ∀ (n : Nat) (xs : List T), mergeE one other both n xs xs = []
  | 0, _ => by simp [mergeE]
  | n + 1, [] => rfl
  | n + 1, x :: xs => by rw [mergeE_eq n xs xs (lessT_irr x) (lessT_irr x), h, mergeE_self h n xs]; rfl
theorem edits_self (N : Nat) (a : T) (way : List Step) : edits N a a way = [] := by
  cases N with
  | zero => rfl
  | succ N =>
    rw [edits]
    exact mergeE_self (fun x => by unfold bothE; rw [if_pos (sameT_rfl x)]) _ _
theorem right_kid {l : List T} : ∀ {p : Option T}, rightL p l = true → ∀ x ∈ l, rightT x = true := by
  induction l with
  | nil => intro p _ x hx; cases hx
  | cons y l ih =>
    intro p h x hx
    rw [rightL_cons, Bool.and_eq_true, Bool.and_eq_true] at h
    rcases List.mem_cons.1 hx with rfl | hx
    · exact h.1.1
    · exact ih h.2 x hx
theorem right_zero {x : T} (h : rightT x = true) (h0 : x.kind = 0) : x.num = 0 ∧ x.text = ⟨#[]⟩ ∧ rightL none x.kids = true := by
  obtain ⟨n, k, d, m, t, l⟩ := x
  have h0' : d = 0 := h0
  subst h0'
  rw [rightT, if_pos rfl, Bool.and_eq_true, Bool.and_eq_true] at h
  exact ⟨of_decide_eq_true h.1.1, of_decide_eq_true h.1.2, h.2⟩
theorem right_leaf {x : T} (h : rightT x = true) (h0 : x.kind ≠ 0) : x.kids = [] := by
  obtain ⟨n, k, d, m, t, l⟩ := x
  have h0' : ¬ d = 0 := h0
  rw [rightT, if_neg h0'] at h
  exact List.isEmpty_iff.1 h
theorem T.ext' {x y : T} (h1 : stepT x = stepT y) (h2 : x.kind = y.kind) (h3 : x.num = y.num) (h4 : x.text = y.text) (h5 : x.kids = y.kids) : x = y := by
  obtain ⟨n, k, d, m, t, l⟩ := x
  obtain ⟨n', k', d', m', t', l'⟩ := y
  have e1 : n = n' := congrArg Prod.fst h1
  have e2 : k = k' := congrArg Prod.snd h1
  have e3 : d = d' := h2
  have e4 : m = m' := h3
  have e5 : t = t' := h4
  have e6 : l = l' := h5
  rw [e1, e2, e3, e4, e5, e6]
theorem mergeE_nil {one other : T → List E} {both : T → T → List E} (h1 : ∀ x, one x ≠ []) (h2 : ∀ y, other y ≠ []) : ∀ (n : Nat) (xs ys : List T), xs.length + ys.length ≤ n →
    (∀ x ∈ xs, ∀ y ∈ ys, stepT x = stepT y → (both x y = [] ↔ x = y)) → (mergeE one other both n xs ys = [] ↔ xs = ys)
  | 0, [], [], _, _ => by simp [mergeE]
  | 0, x :: xs, _, h, _ => by simp at h
  | 0, [], y :: ys, h, _ => by simp at h
  | n + 1, [], [], _, _ => by simp [mergeE]
  | n + 1, x :: xs, [], _, _ => by rw [mergeE_x]; simp [h1]
  | n + 1, [], y :: ys, _, _ => by rw [mergeE_y]; simp [h2]
  | n + 1, x :: xs, y :: ys, h, h3 => by
    cases hl : lessT x y with
    | true =>
      rw [mergeE_lt n xs ys hl]
      simp only [List.append_eq_nil_iff, h1, false_and, false_iff]
      intro e
      injection e with e1 _
      rw [e1, lessT_irr] at hl
      cases hl
    | false =>
      cases hg : lessT y x with
      | true =>
        rw [mergeE_gt n xs ys hl hg]
        simp only [List.append_eq_nil_iff, h2, false_and, false_iff]
        intro e
        injection e with e1 _
        rw [e1, lessT_irr] at hg
        cases hg
      | false =>
        rw [mergeE_eq n xs ys hl hg, List.append_eq_nil_iff, h3 x (by simp) y (by simp) (step_of_less hl hg),
          mergeE_nil h1 h2 n xs ys (by simp at h; omega) (fun x' hx y' hy => h3 x' (by simp [hx]) y' (by simp [hy]))]
        simp
theorem kid_le_deep {l : List T} {x : T} (h : x ∈ l) : x.deep ≤ deepL l := by
  obtain ⟨i, hi⟩ := List.getElem?_of_mem h
  exact deepL_mem hi
theorem edits_nil : ∀ (N : Nat) (a b : T) (way : List Step), a.deep ≤ N → (∀ x ∈ a.kids, rightT x = true) → (∀ y ∈ b.kids, rightT y = true) → (edits N a b way = [] ↔ a.kids = b.kids)
  | 0, a, _, _, h, _, _ => by rw [a.deep_eq] at h; omega
  | N + 1, a, b, way, hd, ha, hb => by
    rw [edits]
    refine mergeE_nil (fun x => by simp [cutE]) (fun y => by simp [setE]) _ _ _ (Nat.le_refl _) (fun x hx y hy hs => ?_)
    unfold bothE
    by_cases h1 : sameT x y = true
    · rw [if_pos h1]
      simp [sameT_iff.1 h1]
    · have hne : x ≠ y := fun e => h1 (sameT_iff.2 e)
      rw [if_neg h1]
      by_cases h2 : x.kind ≠ 0 ∧ y.kind ≠ 0
      · rw [if_pos h2]; simp [hne]
      · rw [if_neg h2]
        by_cases h3 : x.kind ≠ 0 ∨ y.kind ≠ 0
        · rw [if_pos h3]; simp [hne, cutE]
        · rw [if_neg h3]
          have hx0 : x.kind = 0 := by
            by_cases h : x.kind = 0
            · exact h
            · exact absurd (Or.inl h) h3
          have hy0 : y.kind = 0 := by
            by_cases h : y.kind = 0
            · exact h
            · exact absurd (Or.inr h) h3
          obtain ⟨p1, p2, p3⟩ := right_zero (ha x hx) hx0
          obtain ⟨q1, q2, q3⟩ := right_zero (hb y hy) hy0
          rw [edits_nil N x y _ (by have := kid_le_deep hx; rw [a.deep_eq] at hd; omega) (right_kid p3) (right_kid q3)]
          refine ⟨fun h => absurd (T.ext' hs (hx0.trans hy0.symm) (p1.trans q1.symm) (p2.trans q2.symm) h) hne, fun h => absurd h hne⟩
def Fit (e : E) : Prop := (e.kind = 1 ∧ e.old = zeroT) ∨ (e.kind = 2 ∧ e.node = zeroT) ∨ e.kind = 3
theorem mergeE_all {one other : T → List E} {both : T → T → List E} {P : E → Prop} : ∀ (n : Nat) (xs ys : List T), (∀ x ∈ xs, ∀ e ∈ one x, P e) → (∀ y ∈ ys, ∀ e ∈ other y, P e) → (∀ x ∈ xs, ∀ y ∈ ys, stepT x = stepT y → ∀ e ∈ both x y, P e) → ∀ e ∈ mergeE one other both n xs ys, P e
  | 0, _, _, _, _, _ => by simp [mergeE]
  | n + 1, [], [], _, _, _ => by simp [mergeE]
  | n + 1, x :: xs, [], h1, h2, h3 => by
    intro e he
    rw [mergeE_x, List.mem_append] at he
    rcases he with he | he
    · exact h1 x (by simp) e he
    · exact mergeE_all n xs [] (fun x' hx => h1 x' (by simp [hx])) h2 (fun x' hx => h3 x' (by simp [hx])) e he
  | n + 1, [], y :: ys, h1, h2, h3 => by
    intro e he
    rw [mergeE_y, List.mem_append] at he
    rcases he with he | he
    · exact h2 y (by simp) e he
    · exact mergeE_all n [] ys h1 (fun y' hy => h2 y' (by simp [hy])) (fun x' hx y' hy => h3 x' hx y' (by simp [hy])) e he
  | n + 1, x :: xs, y :: ys, h1, h2, h3 => by
    intro e he
    cases hl : lessT x y with
    | true =>
      rw [mergeE_lt n xs ys hl, List.mem_append] at he
      rcases he with he | he
      · exact h1 x (by simp) e he
      · exact mergeE_all n xs (y :: ys) (fun x' hx => h1 x' (by simp [hx])) h2 (fun x' hx => h3 x' (by simp [hx])) e he
    | false =>
      cases hg : lessT y x with
      | true =>
        rw [mergeE_gt n xs ys hl hg, List.mem_append] at he
        rcases he with he | he
        · exact h2 y (by simp) e he
        · exact mergeE_all n (x :: xs) ys h1 (fun y' hy => h2 y' (by simp [hy])) (fun x' hx y' hy => h3 x' hx y' (by simp [hy])) e he
      | false =>
        rw [mergeE_eq n xs ys hl hg, List.mem_append] at he
        rcases he with he | he
        · exact h3 x (by simp) y (by simp) (step_of_less hl hg) e he
        · exact mergeE_all n xs ys (fun x' hx => h1 x' (by simp [hx])) (fun y' hy => h2 y' (by simp [hy])) (fun x' hx y' hy => h3 x' (by simp [hx]) y' (by simp [hy])) e he
theorem edits_fit : ∀ (N : Nat) (a b : T) (way : List Step), ∀ e ∈ edits N a b way, Fit e
  | 0, _, _, _ => by simp [edits]
  | N + 1, a, b, way => by
    rw [edits]
    refine mergeE_all _ _ _ (fun x _ e he => ?_) (fun y _ e he => ?_) (fun x _ y _ _ e he => ?_)
    · simp [cutE] at he; subst he; exact .inr (.inl ⟨rfl, rfl⟩)
    · simp [setE] at he; subst he; exact .inl ⟨rfl, rfl⟩
    · unfold bothE at he
      split at he
      · cases he
      · split at he
        · simp at he; subst he; exact .inr (.inr rfl)
        · split at he
          · simp [cutE, setE] at he
            rcases he with rfl | rfl
            · exact .inr (.inl ⟨rfl, rfl⟩)
            · exact .inl ⟨rfl, rfl⟩
          · exact edits_fit N x y _ e he
theorem inverse_append (l m : List E) : inverse (l ++ m) = inverse m ++ inverse l := by simp [inverse, List.flatMap_append]
theorem inverse_one (e : E) : inverse [e] = inv1 e := by simp [inverse]
end Go.Proofs.Ytgkgedjmnbjalaa
set_option linter.unusedSimpArgs false
set_option linter.unusedVariables false
namespace Go.Proofs.Ytgkgedjmnbjalaa
open Go.RowKit Go.Sort Go.Shelf
attribute [local go_sem] Oper.semAt_some
structure OutsN (B O : Nat) (w : World) (v : Value) (css : List (List Value)) (es : List E) : Prop extends Outs B O w v css es where
  fresh : ∀ (i : Nat) e c, es[i]? = some e → css[i]? = some c → RE (fun b => B ≤ b ∧ b ≠ O ∧ v.ownBlock ≠ some b) w e c
theorem OutsN.ext {B O : Nat} {w w' : World} {v : Value} {css : List (List Value)} {es : List E} (h : OutsN B O w v css es) (hx : Ext w w') : OutsN B O w' v css es :=
  ⟨h.toOuts.ext hx, fun i e c he hc => (h.fresh i e c he hc).ext hx⟩
theorem OutsN.other {B O : Nat} {W W' : World} {v : Value} {css : List (List Value)} {es : List E} {row : Option Nat} (h : OutsN B O W v css es) (hg : W.grownBy W' row) (hr : ∀ r, row = some r → ∃ o : Obj, W.heap[r]? = some o ∧ o.isCells = false) : OutsN B O W' v css es :=
  ⟨h.toOuts.other hg hr, fun i e c he hc' => (h.fresh i e c he hc').keep (fun b off u hb hu => ⟨hb, cell_kept hu hg hr⟩)⟩
theorem OutsN.push {B O : Nat} {w w' : World} {v v' : Value} {css : List (List Value)} {es : List E} {e : E} {c : List Value} (h : OutsN B O w v css es)
    (hc : RE (fun b => B ≤ b ∧ b ≠ O ∧ v.ownBlock ≠ some b) w e c) (hown : w'.ownsRow B 68 14 v' (es.length + 1) (css.flatten ++ c)) (hg : w.grownBy w' v.ownBlock) (hat : v'.ownBlock = v.ownBlock ∨ v'.ownBlock = some w.heap.size) :
    OutsN B O (w'.setCell ⟨O, 0, none⟩ v') v' (css ++ [c]) (es ++ [e]) ∧ Fr O w v (w'.setCell ⟨O, 0, none⟩ v') v' := by
  obtain ⟨h1, hfr⟩ := h.toOuts.push (hc.mono fun b _ hb => hb.2) hown hg hat
  refine ⟨⟨h1, fun i e' c' he hc' => ?_⟩, hfr⟩
  have hk : ∀ b off u, (B ≤ b ∧ b ≠ O ∧ v.ownBlock ≠ some b) → w.cell? ⟨b, off, none⟩ = some u → (B ≤ b ∧ b ≠ O ∧ v'.ownBlock ≠ some b) ∧ (w'.setCell ⟨O, 0, none⟩ v').cell? ⟨b, off, none⟩ = some u := fun b off u hb hu => ⟨⟨hb.1, (hfr.keep b off u hb.2 hu).1⟩, (hfr.keep b off u hb.2 hu).2⟩
  by_cases hi : i < es.length
  · rw [List.getElem?_append_left hi] at he
    rw [List.getElem?_append_left (by rw [h.len]; exact hi)] at hc'
    exact (h.fresh i e' c' he hc').keep hk
  · rw [List.getElem?_append_right (by omega)] at he
    rw [List.getElem?_append_right (by rw [h.len]; omega), h.len] at hc'
    have h0 : i - es.length = 0 := by
      have := (List.getElem?_eq_some_iff.1 he).1
      simp at this
      omega
    rw [h0] at he hc'
    simp at he hc'
    subst he hc'
    exact hc.keep hk
theorem OutsN.row {B O : Nat} {w : World} {v : Value} {css : List (List Value)} {es : List E} (hl : es.length ≤ 1048576) (h : OutsN B O w v css es) : ∃ A c, v = .slice A es.length c ∧ ERow (B ≤ ·) w A es c := by
  obtain ⟨A, c, h1, h2, h3, h4⟩ := own_slice h.own
  refine ⟨A, c, h1, h2, hl, h3, fun i e hi => ?_⟩
  have hlt := (List.getElem?_eq_some_iff.1 hi).1
  obtain ⟨g, sp, e1, e2, e3⟩ := h4 (by omega)
  have hlt' : i < css.length := by rw [h.len]; exact hlt
  have hci := List.getElem?_eq_getElem hlt'
  refine ⟨g, 0, css[i], e1, e2, (h.fresh i e _ hi hci).mono (fun _ _ hb => hb.1), fun j v hv => ?_⟩
  have h5 := flatten_get css h.c14 i _ hci j v hv
  rw [e3.cell, Nat.zero_add, List.getElem?_append_left (List.getElem?_eq_some_iff.1 h5).1]
  exact h5
def EdPostN (es : List E) (w w' : World) (v : Value) : Prop := ∃ A c, v = .slice A es.length c ∧ ERow (w.heap.size ≤ ·) w' A es c ∧ Ext w w'
def InvN (w : World) (es : List E) (W : World) : Prop := ∃ v css, OutsN w.heap.size w.heap.size W v css es ∧ v.ownBlock ≠ some (w.heap.size + 1) ∧ w.heap.size + 2 ≤ W.heap.size ∧ Ext w W
theorem InvN.ext {w W W' : World} {es : List E} (hx : Ext W W') (h : InvN w es W) : InvN w es W' := by
  obtain ⟨v, css, ho, hne, hs, hx0⟩ := h
  exact ⟨v, css, ho.ext hx, hne, Nat.le_trans hs hx.size, hx0.trans hx⟩
theorem InvN.own (w : World) {α : Type} (f : List α → List E) (B : Nat) (hB : w.heap.size ≤ B) : OwnFrom B (fun pre W => InvN w (f pre) W) := fun pre W W' row hs hg hr => by
  obtain ⟨v, css, ho, hne, hsz, hx0⟩ := hs
  exact ⟨v, css, ho.other hg (fun r e => (hr r e).2), hne, Nat.le_trans hsz hg.size, Below.grown hx0 hg hx0.size (fun k e => Nat.le_trans hB (hr k e).1)⟩
set_option maxRecDepth 100000 in
set_option maxHeartbeats 4000000 in
theorem diff_inverse_new (es : List E) (S : Nat → Prop) (w : World) (A : Option Addr) (c : Nat) (hr : ERow S w A es c) :
    Calls Try.prog 43 #[.slice A es.length c] w (Ret (EdPostN (inverse es) w)) := by
  have kr := Hd.mk (hr.keep (S' := (· < w.heap.size)) (fun b off v hb hc => ⟨World.block_lt_of_cell? w _ hc, hc⟩))
  have hlen := hr.len
  clear hr
  refine (callsIn_wide (n := 6)).1 ?_
  refine callsIn_of_wp_marks Try.func43 rfl trivial ?_ rfl
  simp only [Try.ntmps43, List.size_toArray, List.length_cons, List.length_nil, Nat.reduceAdd, Nat.reduceSub, Array.replicate_succ, Array.replicate_zero, List.push_toArray, List.append_toArray, List.nil_append, List.cons_append]
  gi_wp2_with (refine ⟨trivial, ?_⟩; gi_at_call 102; refine (back_in _ _ trivial rfl _ _ _ _).mono ?_; rintro e w' ⟨rfl, rfl⟩)
  have bO := (Blk.new w #[.slice none 0 0] 57).alloc (.cells #[.slice A es.length c] 57)
  have bS := Blk.new2 w (.cells #[.slice none 0 0] 57) #[.slice A es.length c] 57
  have kx : Ext w ((w.alloc (.cells #[.slice none 0 0] 57)).alloc (.cells #[.slice A es.length c] 57)) := (Ext.alloc _ _).trans (Ext.alloc _ _)
  have hsz : ((w.alloc (.cells #[.slice none 0 0] 57)).alloc (.cells #[.slice A es.length c] 57)).heap.size = w.heap.size + 2 := by simp
  generalize (w.alloc (.cells #[.slice none 0 0] 57)).alloc (.cells #[.slice A es.length c] 57) = W0 at *
  have h0 : InvN w [] W0 := ⟨.slice none 0 0, [], ⟨⟨bO, Nat.le_refl _, rfl, by simp, ⟨rfl, .inl ⟨rfl, rfl⟩⟩, fun i e c h => by simp at h, by simp [Value.ownBlock]⟩, fun i e c h => by simp at h⟩, by simp [Value.ownBlock], Nat.le_of_eq hsz.symm, kx⟩
  have hOwn := InvN.own w (α := EdAt w es) (fun pre => (pre.map (·.1.2.1)).flatMap inv1) W0.heap.size kx.size
  refine wpIn_rangeFunc_ownH rfl (by omega) (gf := 142) (lb := #[.pointer (some ⟨w.heap.size + 1, 0, none⟩)]) rfl trivial (enters_of Try.func142 (by kernel_rfl) rfl)
    (back_stops _ _ trivial rfl (by omega) (w.heap.size + 1) w W0 A c es kr.out kx bS) Kb.trans
    (fun W l o o' hl ho hc hk => ⟨belowK_b (w := W0) kx.size W l o o' hl ho hc hk, fun cs t hb => (World.putObj_heap_other (fun e => by subst e; unfold Blk at hb; rw [hb] at ho; cases ho; cases hc)).trans hb⟩) (Below.refl _ _) (fun _ => rfl)
    (fun pre W => InvN w ((pre.map (·.1.2.1)).flatMap inv1) W) (fun _ _ _ => False) hOwn (fun _ _ _ _ _ hs _ _ => hs) h0
    (fun x a' W => ∃ Bx, w.heap.size + 1 < Bx ∧ Blk W Bx x.1.2.2 68 ∧ a' = { tmps := (Value.slice A es.length c :: undef :: Value.slice none 0 0 :: Value.pointer (some ⟨w.heap.size, 0, none⟩) :: undef :: Value.pointer (some ⟨Bx, 0, none⟩) :: undef :: Value.slice A es.length c :: Value.func (.func 142) #[] #[.pointer (some ⟨w.heap.size + 1, 0, none⟩)] :: Value.int .i64 (x.1.1 : Int) :: Value.agg x.1.2.2.toArray :: undef :: undef :: undef :: undef :: undef :: undef :: undef :: undef :: undef :: undef :: undef :: undef :: undef :: undef :: undef :: undef :: undef :: undef :: undef :: undef :: undef :: undef :: undef :: undef :: undef :: undef :: undef :: undef :: undef :: undef :: undef :: undef :: undef :: undef :: undef :: undef :: []).toArray, defers := [] })
    (fun x a' _ X Y row hs hg hr => by
      obtain ⟨Bx, h1, h2, h3⟩ := hs
      refine ⟨Bx, h1, grownBy_blk' hg (fun e => ?_) h2, h3⟩
      obtain ⟨_, o, ho, hcc⟩ := hr Bx e.symm
      unfold Blk at h2
      rw [h2] at ho
      cases ho
      cases hcc)
    ?assign ?body ?done ?stop
  case assign =>
    rintro l pre ⟨⟨j, e, ck⟩, hej, hre⟩ W K hI hK
    have hsW : w.heap.size + 2 ≤ W.heap.size := by obtain ⟨_, _, _, _, h, _⟩ := hI; exact h
    have hI := Hd.mk hI
    change RE _ _ e ck at hre
    change es[j]? = some e at hej
    obtain ⟨A1, a1, K3, k3, L3, l3, rfl, _⟩ := hre
    simp only [EdAt.enc, cT, List.cons_append, List.nil_append] at hK ⊢
    have hK := Hd.mk hK
    gi_wp2
    refine hK.out _ _ ((KeepsOthers.alloc _ _).from _) ⟨(Below.refl _ W).alloc (by omega) _, fun cs t hb => hb.alloc _⟩ (hI.out.ext (Ext.alloc _ _)) ⟨W.heap.size, by omega, Blk.new _ _ _, rfl⟩
  case body =>
    rintro l pre ⟨⟨j, e, ck⟩, hej, hre⟩ a' W hl ⟨r, hr⟩ hI ⟨Bx, hBx, hX, rfl⟩ hlt
    change RE _ _ e ck at hre
    change es[j]? = some e at hej
    change Blk W Bx ck 68 at hX
    replace hI := Hd.mk hI
    have kxW : Ext w W := by obtain ⟨_, _, _, _, _, h⟩ := hI.out; exact h
    have hsW : w.heap.size + 2 ≤ W.heap.size := by obtain ⟨_, _, _, _, h, _⟩ := hI.out; exact h
    replace kxW := Hd.mk kxW
    have hIn : (List.map (fun x : EdAt w es => x.1.2.1) (pre ++ [⟨(j, e, ck), hej, hre⟩])).flatMap inv1 = (List.map (fun x : EdAt w es => x.1.2.1) pre).flatMap inv1 ++ inv1 e := by
      rw [List.map_append, List.flatMap_append]
      show _ ++ List.flatMap inv1 [e] = _
      simp
    replace hIn := Hd.mk hIn
    have hpl : ((List.map (fun x : EdAt w es => x.1.2.1) pre).flatMap inv1).length + 1 ≤ 1048576 := by
      have := inverse_len' (List.map (fun x : EdAt w es => x.1.2.1) pre)
      rw [List.length_map] at this
      omega
    obtain ⟨kd, way, node, old⟩ := e
    have hre' := hre
    obtain ⟨A1, a1, K3, k3, L3, l3, rfl, hw, hn, ho⟩ := hre'
    have hwl := Hd.mk hw.len
    have hcl := Hd.mk (fun W' (h : Ext w W') => clone_steps hw h)
    have hT1 := Hd.mk (fun W' (h : Ext w W') => diff_clone node (· < w.heap.size) W' _ ((RT.of_row hn).ext h))
    have hT2 := Hd.mk (fun W' (h : Ext w W') => diff_clone old (· < w.heap.size) W' _ ((RT.of_row ho).ext h))
    replace hX := Hd.mk hX
    have gX := hX.out.cell
    have hlX := hX.out.lt
    simp only [cT, List.cons_append, List.nil_append] at hT1 hT2 gX ⊢
    clear hw hn ho hr hl hlt
    generalize hpost : ownPostG W0.heap.size (Kb w.heap.size (w.heap.size + 1)) _ _ _ W = Q
    have hQ : ¬ LetsOut Q := by rintro ⟨a0, w0, h⟩; rw [← hpost] at h; exact h
    replace hQ := Hd.mk hQ
    have hQn : ∀ (a0 : Act) (V : World), KeepsFrom W0.heap.size W V → Kb w.heap.size (w.heap.size + 1) W V → InvN w ((List.map (fun x : EdAt w es => x.1.2.1) pre).flatMap inv1 ++ inv1 ⟨kd, way, node, old⟩) V → Q .normal a0 V := fun a0 V h1 h2 h3 => by
      rw [← hpost]
      exact ⟨h1, h2, Eq.mpr (congrArg (fun q => InvN w q V) hIn.out) h3⟩
    replace hQn := Hd.mk hQn
    clear hpost hIn hre hej
    generalize (List.map (fun x : EdAt w es => x.1.2.1) pre).flatMap inv1 = done at *
    gi_wp2_with (first
      | (refine ⟨trivial, ?_⟩; gi_at_call 103; refine (CallsIn.inRound l (callsIn_wide.2 (hcl.out _ kxW.out))).mono ?_; rintro e w' ⟨v', rfl, hv', hx'⟩; obtain ⟨A4, c4, rfl, hw4⟩ := WRow.of_own hwl.out rfl hv'; replace hw4 := Hd.mk hw4; replace hx' := Hd.mk hx')
      | (with_reducible refine stopIn_at (.fieldAddr 68 (.tmp 5) 0) ?_))
    refine Stop.mk ?_
    replace hw4 := Hd.mk ((hw4.out.mono (S' := fun b => W.heap.size ≤ b ∧ b ≠ w'.heap.size) (fun b hb h => ⟨h, by omega⟩)).ext (Ext.alloc w' (.cells #[.int .i64 0, .slice A4 way.length c4, .string ⟨#[]⟩, .string ⟨#[]⟩, .int .i64 0, .int .u64 0, .string ⟨#[]⟩, .slice none 0 0, .string ⟨#[]⟩, .string ⟨#[]⟩, .int .i64 0, .int .u64 0, .string ⟨#[]⟩, .slice none 0 0] 68)))
    have kxY := Hd.mk (hx'.out.trans (Ext.alloc w' (.cells #[.int .i64 0, .slice A4 way.length c4, .string ⟨#[]⟩, .string ⟨#[]⟩, .int .i64 0, .int .u64 0, .string ⟨#[]⟩, .slice none 0 0, .string ⟨#[]⟩, .string ⟨#[]⟩, .int .i64 0, .int .u64 0, .string ⟨#[]⟩, .slice none 0 0] 68)))
    have hY := Hd.mk (Blk.new w' #[.int .i64 0, .slice A4 way.length c4, .string ⟨#[]⟩, .string ⟨#[]⟩, .int .i64 0, .int .u64 0, .string ⟨#[]⟩, .slice none 0 0, .string ⟨#[]⟩, .string ⟨#[]⟩, .int .i64 0, .int .u64 0, .string ⟨#[]⟩, .slice none 0 0] 68)
    have hBy := hx'.out.size
    replace hX := Hd.mk (hX.out.ext kxY.out)
    clear gX hlX hx' hcl
    generalize w'.heap.size = By at *
    generalize w'.alloc _ = W3 at *
    have gX := hX.out.cell
    have gY := hY.out.cell
    have fY := hY.out.free
    have hlX := hX.out.lt
    have hlY := hY.out.lt
    simp only [cT, List.cons_append, List.nil_append, List.toList_toArray] at gX gY
    by_cases k1 : kd = 1
    · subst k1
      gi_wp2_with (first
        | (refine ⟨trivial, ?_⟩; gi_at_call 96; refine (CallsIn.inRound l (callsIn_wide.2 (hT1.out _ (kxW.out.trans kxY.out)))).mono ?_; rintro e w4 ⟨_, rfl, cc, rfl, hr3, hx3⟩; obtain ⟨K4, k4, rfl, hr4⟩ := hr3.row; replace hr4 := Hd.mk hr4; replace hx3 := Hd.mk hx3; replace hw4 := Hd.mk (hw4.out.ext hx3.out); replace kxY := Hd.mk (kxY.out.trans hx3.out); replace hY := Hd.mk (hY.out.ext hx3.out); clear gX gY fY hlX hr3; have gY := hY.out.cell; have fY := hY.out.free; simp only [cT, List.toList_toArray] at gY ⊢)
        | (with_reducible refine stopIn_at (.load 57 (.tmp 3)) ?_))
      refine Stop.mk ?_
      have hu := Hd.mk (((((((Upd.setCell w4 ⟨By, 0, none⟩ (.int .i64 2)).trans (Upd.setCell _ ⟨By, 8, none⟩ (.string node.name))).trans (Upd.setCell _ ⟨By, 9, none⟩ (.string node.key))).trans (Upd.setCell _ ⟨By, 10, none⟩ (.int .i64 node.kind))).trans (Upd.setCell _ ⟨By, 11, none⟩ (.int .u64 node.num))).trans (Upd.setCell _ ⟨By, 12, none⟩ (.string node.text))).trans (Upd.setCell _ ⟨By, 13, none⟩ (.slice K4 node.kids.length k4)))
      have hD : Blk (((((((w4.setCell ⟨By, 0, none⟩ (.int .i64 2)).setCell ⟨By, 8, none⟩ (.string node.name)).setCell ⟨By, 9, none⟩ (.string node.key)).setCell ⟨By, 10, none⟩ (.int .i64 node.kind)).setCell ⟨By, 11, none⟩ (.int .u64 node.num)).setCell ⟨By, 12, none⟩ (.string node.text)).setCell ⟨By, 13, none⟩ (.slice K4 node.kids.length k4)) By [.int .i64 2, .slice A4 way.length c4, .string ⟨#[]⟩, .string ⟨#[]⟩, .int .i64 0, .int .u64 0, .string ⟨#[]⟩, .slice none 0 0, .string node.name, .string node.key, .int .i64 node.kind, .int .u64 node.num, .string node.text, .slice K4 node.kids.length k4] 68 := (((((((hY.out.setCell 0 (.int .i64 2)).setCell 8 (.string node.name)).setCell 9 (.string node.key)).setCell 10 (.int .i64 node.kind)).setCell 11 (.int .u64 node.num)).setCell 12 (.string node.text)).setCell 13 (.slice K4 node.kids.length k4))
      have hB4 := (hY.out.lt)
      replace hD := Hd.mk hD
      generalize hW5 : (((((((w4.setCell ⟨By, 0, none⟩ (.int .i64 2)).setCell ⟨By, 8, none⟩ (.string node.name)).setCell ⟨By, 9, none⟩ (.string node.key)).setCell ⟨By, 10, none⟩ (.int .i64 node.kind)).setCell ⟨By, 11, none⟩ (.int .u64 node.num)).setCell ⟨By, 12, none⟩ (.string node.text)).setCell ⟨By, 13, none⟩ (.slice K4 node.kids.length k4)) = W5 at *
      clear hW5 gY fY hY
      have kx5 : Ext W W5 := Below.trans kxY.out (hu.out.below hBy)
      replace kx5 := Hd.mk kx5
      have hw5 : WRow (fun b => W.heap.size ≤ b ∧ b ≠ By) W5 A4 way c4 := hw4.out.keep (fun b off v hb hc => ⟨⟨hb.1, hb.2⟩, (World.cell?_of_block (hu.out.block b hb.2)).trans hc⟩)
      skip
      have hr5 : RRow (W.heap.size ≤ ·) W5 K4 node.kids k4 := hr4.out.keep (fun b off v hb hc => by have hb2 : W3.heap.size ≤ b := hb; exact ⟨by show W.heap.size ≤ b; omega, (World.cell?_of_block (hu.out.block b (by show b ≠ By; omega))).trans hc⟩)
      have hre : RE (W.heap.size ≤ ·) W5 (⟨2, way, zeroT, node⟩ : E) [.int .i64 2, .slice A4 way.length c4, .string ⟨#[]⟩, .string ⟨#[]⟩, .int .i64 0, .int .u64 0, .string ⟨#[]⟩, .slice none 0 0, .string node.name, .string node.key, .int .i64 node.kind, .int .u64 node.num, .string node.text, .slice K4 node.kids.length k4] := ⟨A4, c4, _, _, _, _, rfl, hw5.mono (fun b _ h => h.1), RRow.nil _ _ _ _ (fun _ => rfl), hr5⟩
      replace hre := Hd.mk hre
      have hBx2 : W.heap.size ≤ By := hBy
      clear hw4 hw5 hr4 hu kxY hx3
      refine Flow.listIn_of_list (by rintro ⟨a0, w0, h⟩; exact hQ.out ⟨a0, w0, h⟩) _ rfl _ _ ?_
      obtain ⟨v, css, hos, hne, hsz, hx0⟩ := hI.out
      obtain ⟨V, vc, rfl, _⟩ := own_slice hos.own
      have hos0 := Hd.mk hos
      have hos5 := Hd.mk (hos.ext kx5.out)
      have hlt5 := Hd.mk (own_lt hos.own)
      replace hne := Hd.mk hne
      have hO := Hd.mk hos5.out.box
      have gO := hO.out.cell
      have fO := hO.out.free
      have gD := hD.out.cell
      have hlD := hD.out.lt
      have hlO := hO.out.lt
      clear hos hsz hx0
      go_wp2_with ((with_reducible refine stop_at (.call { callee := .builtin .append, args := #[.tmp 42, .tmp 44], argTypes := #[57, 57] }) ?_))
      refine Stop.mk ?_
      have hD6 := Hd.mk (Blk.new W5 #[.int .i64 2, .slice A4 way.length c4, .string ⟨#[]⟩, .string ⟨#[]⟩, .int .i64 0, .int .u64 0, .string ⟨#[]⟩, .slice none 0 0, .string node.name, .string node.key, .int .i64 node.kind, .int .u64 node.num, .string node.text, .slice K4 node.kids.length k4] 68)
      have kx6 := Hd.mk (Ext.alloc W5 (.cells #[.int .i64 2, .slice A4 way.length c4, .string ⟨#[]⟩, .string ⟨#[]⟩, .int .i64 0, .int .u64 0, .string ⟨#[]⟩, .slice none 0 0, .string node.name, .string node.key, .int .i64 node.kind, .int .u64 node.num, .string node.text, .slice K4 node.kids.length k4] 68))
      have hos6 := Hd.mk (hos5.out.ext kx6.out)
      have hre6 := Hd.mk (hre.out.ext kx6.out)
      have hs6 := kx5.out.size
      generalize W5.heap.size = B6 at *
      generalize W5.alloc _ = W6 at *
      refine wpl_append' sl57 (by omega) (by omega) (.tmp 42) (.tmp 44) 45 _ _ _ w.heap.size (.slice V done.length vc) done.length css.flatten rfl hos6.out.own ⟨B6, 0, none⟩ 1 1 _ rfl (by rw [hre6.out.len]) (fun i u hi => by rw [addr_add, Nat.zero_add, hD6.out.cell]; exact hi) hre6.out.one (by omega) (by have := hos6.out.box.lt; omega) ?_
      intro v' w' hown hgr hat
      obtain ⟨V', vc', rfl, _⟩ := own_slice hown
      have hp := Hd.mk (OutsN.push hos6.out (hre6.out.mono (fun b _ hb => by refine ⟨by omega, by omega, fun hh => ?_⟩; have h6 := hlt5.out b hh; omega)) hown hgr hat)
      have hbox := Hd.mk (grownBy_blk' hgr (fun e => hos6.out.ne e.symm) hos6.out.box)
      clear hown hgr hat gO fO gD hlD hlO
      have gO := hbox.out.cell
      have fO := hbox.out.free
      go_wp2_with fail
      have hfr := (Fr.of_ext (O := w.heap.size) (v := .slice V done.length vc) (kx5.out.trans kx6.out)).trans hp.out.2
      exact hQn.out _ _ (fr_keeps (hI2 := hos0.out.toOuts) hfr) (fr_kb hos0.out.toOuts hne.out hfr) ⟨_, _, hp.out.1, hfr.ne (by omega) hne.out, Nat.le_trans (by omega) hfr.size, Below.trans kxW.out (hfr.below (Nat.le_refl _) kxW.out.size hos0.out.base)⟩
    · by_cases k2 : kd = 2
      · subst k2
        gi_wp2_with (first
          | (refine ⟨trivial, ?_⟩; gi_at_call 96; refine (CallsIn.inRound l (callsIn_wide.2 (hT2.out _ (kxW.out.trans kxY.out)))).mono ?_; rintro e w4 ⟨_, rfl, cc, rfl, hr3, hx3⟩; obtain ⟨K4, k4, rfl, hr4⟩ := hr3.row; replace hr4 := Hd.mk hr4; replace hx3 := Hd.mk hx3; replace hw4 := Hd.mk (hw4.out.ext hx3.out); replace kxY := Hd.mk (kxY.out.trans hx3.out); replace hY := Hd.mk (hY.out.ext hx3.out); clear gX gY fY hlX hr3; have gY := hY.out.cell; have fY := hY.out.free; simp only [cT, List.toList_toArray] at gY ⊢)
          | (with_reducible refine stopIn_at (.load 57 (.tmp 3)) ?_))
        refine Stop.mk ?_
        have hu := Hd.mk (((((((Upd.setCell w4 ⟨By, 0, none⟩ (.int .i64 1)).trans (Upd.setCell _ ⟨By, 2, none⟩ (.string old.name))).trans (Upd.setCell _ ⟨By, 3, none⟩ (.string old.key))).trans (Upd.setCell _ ⟨By, 4, none⟩ (.int .i64 old.kind))).trans (Upd.setCell _ ⟨By, 5, none⟩ (.int .u64 old.num))).trans (Upd.setCell _ ⟨By, 6, none⟩ (.string old.text))).trans (Upd.setCell _ ⟨By, 7, none⟩ (.slice K4 old.kids.length k4)))
        have hD : Blk (((((((w4.setCell ⟨By, 0, none⟩ (.int .i64 1)).setCell ⟨By, 2, none⟩ (.string old.name)).setCell ⟨By, 3, none⟩ (.string old.key)).setCell ⟨By, 4, none⟩ (.int .i64 old.kind)).setCell ⟨By, 5, none⟩ (.int .u64 old.num)).setCell ⟨By, 6, none⟩ (.string old.text)).setCell ⟨By, 7, none⟩ (.slice K4 old.kids.length k4)) By [.int .i64 1, .slice A4 way.length c4, .string old.name, .string old.key, .int .i64 old.kind, .int .u64 old.num, .string old.text, .slice K4 old.kids.length k4, .string ⟨#[]⟩, .string ⟨#[]⟩, .int .i64 0, .int .u64 0, .string ⟨#[]⟩, .slice none 0 0] 68 := (((((((hY.out.setCell 0 (.int .i64 1)).setCell 2 (.string old.name)).setCell 3 (.string old.key)).setCell 4 (.int .i64 old.kind)).setCell 5 (.int .u64 old.num)).setCell 6 (.string old.text)).setCell 7 (.slice K4 old.kids.length k4))
        have hB4 := (hY.out.lt)
        replace hD := Hd.mk hD
        generalize hW5 : (((((((w4.setCell ⟨By, 0, none⟩ (.int .i64 1)).setCell ⟨By, 2, none⟩ (.string old.name)).setCell ⟨By, 3, none⟩ (.string old.key)).setCell ⟨By, 4, none⟩ (.int .i64 old.kind)).setCell ⟨By, 5, none⟩ (.int .u64 old.num)).setCell ⟨By, 6, none⟩ (.string old.text)).setCell ⟨By, 7, none⟩ (.slice K4 old.kids.length k4)) = W5 at *
        clear hW5 gY fY hY
        have kx5 : Ext W W5 := Below.trans kxY.out (hu.out.below hBy)
        replace kx5 := Hd.mk kx5
        have hw5 : WRow (fun b => W.heap.size ≤ b ∧ b ≠ By) W5 A4 way c4 := hw4.out.keep (fun b off v hb hc => ⟨⟨hb.1, hb.2⟩, (World.cell?_of_block (hu.out.block b hb.2)).trans hc⟩)
        have hr5 : RRow (W.heap.size ≤ ·) W5 K4 old.kids k4 := hr4.out.keep (fun b off v hb hc => by have hb2 : W3.heap.size ≤ b := hb; exact ⟨by show W.heap.size ≤ b; omega, (World.cell?_of_block (hu.out.block b (by show b ≠ By; omega))).trans hc⟩)
        skip
        have hre : RE (W.heap.size ≤ ·) W5 (⟨1, way, old, zeroT⟩ : E) [.int .i64 1, .slice A4 way.length c4, .string old.name, .string old.key, .int .i64 old.kind, .int .u64 old.num, .string old.text, .slice K4 old.kids.length k4, .string ⟨#[]⟩, .string ⟨#[]⟩, .int .i64 0, .int .u64 0, .string ⟨#[]⟩, .slice none 0 0] := ⟨A4, c4, _, _, _, _, rfl, hw5.mono (fun b _ h => h.1), hr5, RRow.nil _ _ _ _ (fun _ => rfl)⟩
        replace hre := Hd.mk hre
        have hBx2 : W.heap.size ≤ By := hBy
        clear hw4 hw5 hr4 hu kxY hx3
        refine Flow.listIn_of_list (by rintro ⟨a0, w0, h⟩; exact hQ.out ⟨a0, w0, h⟩) _ rfl _ _ ?_
        obtain ⟨v, css, hos, hne, hsz, hx0⟩ := hI.out
        obtain ⟨V, vc, rfl, _⟩ := own_slice hos.own
        have hos0 := Hd.mk hos
        have hos5 := Hd.mk (hos.ext kx5.out)
        have hlt5 := Hd.mk (own_lt hos.own)
        replace hne := Hd.mk hne
        have hO := Hd.mk hos5.out.box
        have gO := hO.out.cell
        have fO := hO.out.free
        have gD := hD.out.cell
        have hlD := hD.out.lt
        have hlO := hO.out.lt
        clear hos hsz hx0
        go_wp2_with ((with_reducible refine stop_at (.call { callee := .builtin .append, args := #[.tmp 42, .tmp 44], argTypes := #[57, 57] }) ?_))
        refine Stop.mk ?_
        have hD6 := Hd.mk (Blk.new W5 #[.int .i64 1, .slice A4 way.length c4, .string old.name, .string old.key, .int .i64 old.kind, .int .u64 old.num, .string old.text, .slice K4 old.kids.length k4, .string ⟨#[]⟩, .string ⟨#[]⟩, .int .i64 0, .int .u64 0, .string ⟨#[]⟩, .slice none 0 0] 68)
        have kx6 := Hd.mk (Ext.alloc W5 (.cells #[.int .i64 1, .slice A4 way.length c4, .string old.name, .string old.key, .int .i64 old.kind, .int .u64 old.num, .string old.text, .slice K4 old.kids.length k4, .string ⟨#[]⟩, .string ⟨#[]⟩, .int .i64 0, .int .u64 0, .string ⟨#[]⟩, .slice none 0 0] 68))
        have hos6 := Hd.mk (hos5.out.ext kx6.out)
        have hre6 := Hd.mk (hre.out.ext kx6.out)
        have hs6 := kx5.out.size
        generalize W5.heap.size = B6 at *
        generalize W5.alloc _ = W6 at *
        refine wpl_append' sl57 (by omega) (by omega) (.tmp 42) (.tmp 44) 45 _ _ _ w.heap.size (.slice V done.length vc) done.length css.flatten rfl hos6.out.own ⟨B6, 0, none⟩ 1 1 _ rfl (by rw [hre6.out.len]) (fun i u hi => by rw [addr_add, Nat.zero_add, hD6.out.cell]; exact hi) hre6.out.one (by omega) (by have := hos6.out.box.lt; omega) ?_
        intro v' w' hown hgr hat
        obtain ⟨V', vc', rfl, _⟩ := own_slice hown
        have hp := Hd.mk (OutsN.push hos6.out (hre6.out.mono (fun b _ hb => by refine ⟨by omega, by omega, fun hh => ?_⟩; have h6 := hlt5.out b hh; omega)) hown hgr hat)
        have hbox := Hd.mk (grownBy_blk' hgr (fun e => hos6.out.ne e.symm) hos6.out.box)
        clear hown hgr hat gO fO gD hlD hlO
        have gO := hbox.out.cell
        have fO := hbox.out.free
        go_wp2_with fail
        have hfr := (Fr.of_ext (O := w.heap.size) (v := .slice V done.length vc) (kx5.out.trans kx6.out)).trans hp.out.2
        exact hQn.out _ _ (fr_keeps (hI2 := hos0.out.toOuts) hfr) (fr_kb hos0.out.toOuts hne.out hfr) ⟨_, _, hp.out.1, hfr.ne (by omega) hne.out, Nat.le_trans (by omega) hfr.size, Below.trans kxW.out (hfr.below (Nat.le_refl _) kxW.out.size hos0.out.base)⟩
      · by_cases k3 : kd = 3
        · subst k3
          gi_wp2
          refine Flow.wpIn_region_flow_l (by rintro ⟨a0, w0, h⟩; exact hQ.out ⟨a0, w0, h⟩) (fun qq => match qq with
            | 33 => SP.eq (.pointer (some ⟨Bx, 8, none⟩))
            | 34 => SP.eq (.agg #[.string old.name, .string old.key, .int .i64 old.kind, .int .u64 old.num, .string old.text, .slice L3 old.kids.length l3])
            | 35 => spT old W3.heap.size
            | 36 => SP.eq (.pointer (some ⟨Bx, 2, none⟩))
            | 37 => SP.eq (.agg #[.string node.name, .string node.key, .int .i64 node.kind, .int .u64 node.num, .string node.text, .slice K3 node.kids.length k3])
            | 38 => spT node W3.heap.size
            | 39 => SP.eq (.pointer (some ⟨By, 0, none⟩))
            | _ => SP.any) 7 (by kernel_rfl) (by kernel_rfl) 47 rfl (by kernel_rfl) ?_ ?_
          · skip
            refine ⟨?_, ?_, ?_, ?_, ?_, ?_, ?_, trivial⟩
            · intro act W2 hk
              refine Flow.does_intro rfl (fun Kq hK => ?_)
              have e5 : act.tmps[5]?.getD undef = .pointer (some ⟨Bx, 0, none⟩) := hk.o 5 (by kernel_rfl)
              clear hk
              go_simp
              exact hK _ _ (Ext.refl _) (fun d hd => by cases hd; rfl)
            · intro act W2 hk
              refine Flow.does_intro rfl (fun Kq hK => ?_)
              have e33 : act.tmps[33]?.getD undef = .pointer (some ⟨Bx, 8, none⟩) := hk.v 33 (by kernel_rfl)
              have g := (((show Blk W3 Bx [.int .i64 3, .slice A1 way.length a1, .string node.name, .string node.key, .int .i64 node.kind, .int .u64 node.num, .string node.text, .slice K3 node.kids.length k3, .string old.name, .string old.key, .int .i64 old.kind, .int .u64 old.num, .string old.text, .slice L3 old.kids.length l3] 68 from hX.out)).ext ((Ext.drew W3).trans hk.ext)).cell
              clear hk
              go_simp
              exact hK _ _ (Ext.refl _) (fun d hd => by cases hd; rfl)
            · intro act W2 hk
              refine Flow.does_intro rfl (fun Kq hK => ?_)
              have e34 : act.tmps[34]?.getD undef = .agg #[.string old.name, .string old.key, .int .i64 old.kind, .int .u64 old.num, .string old.text, .slice L3 old.kids.length l3] := hk.v 34 (by kernel_rfl)
              have hx0 := Hd.mk ((Ext.drew W3).trans hk.ext)
              have hc2 := Hd.mk (hT2.out _ (kxW.out.trans (kxY.out.trans hx0.out)))
              have hsz0 := hx0.out.size
              clear hk
              go_simp
              refine Calls.mono (hc2.out) ?_
              rintro e W3 ⟨_, rfl, cc, rfl, hr3, hx⟩
              exact hK _ _ hx (fun d hd => by cases hd; exact ⟨cc, rfl, hr3.mono (fun b _ hb => Nat.le_trans hsz0 hb)⟩)
            · intro act W2 hk
              refine Flow.does_intro rfl (fun Kq hK => ?_)
              have e5 : act.tmps[5]?.getD undef = .pointer (some ⟨Bx, 0, none⟩) := hk.o 5 (by kernel_rfl)
              clear hk
              go_simp
              exact hK _ _ (Ext.refl _) (fun d hd => by cases hd; rfl)
            · intro act W2 hk
              refine Flow.does_intro rfl (fun Kq hK => ?_)
              have e36 : act.tmps[36]?.getD undef = .pointer (some ⟨Bx, 2, none⟩) := hk.v 36 (by kernel_rfl)
              have g := (((show Blk W3 Bx [.int .i64 3, .slice A1 way.length a1, .string node.name, .string node.key, .int .i64 node.kind, .int .u64 node.num, .string node.text, .slice K3 node.kids.length k3, .string old.name, .string old.key, .int .i64 old.kind, .int .u64 old.num, .string old.text, .slice L3 old.kids.length l3] 68 from hX.out)).ext ((Ext.drew W3).trans hk.ext)).cell
              clear hk
              go_simp
              exact hK _ _ (Ext.refl _) (fun d hd => by cases hd; rfl)
            · intro act W2 hk
              refine Flow.does_intro rfl (fun Kq hK => ?_)
              have e37 : act.tmps[37]?.getD undef = .agg #[.string node.name, .string node.key, .int .i64 node.kind, .int .u64 node.num, .string node.text, .slice K3 node.kids.length k3] := hk.v 37 (by kernel_rfl)
              have hx0 := Hd.mk ((Ext.drew W3).trans hk.ext)
              have hc2 := Hd.mk (hT1.out _ (kxW.out.trans (kxY.out.trans hx0.out)))
              have hsz0 := hx0.out.size
              clear hk
              go_simp
              refine Calls.mono (hc2.out) ?_
              rintro e W3 ⟨_, rfl, cc, rfl, hr3, hx⟩
              exact hK _ _ hx (fun d hd => by cases hd; exact ⟨cc, rfl, hr3.mono (fun b _ hb => Nat.le_trans hsz0 hb)⟩)
            · intro act W2 hk
              refine Flow.does_intro rfl (fun Kq hK => ?_)
              have e6 : act.tmps[6]?.getD undef = .pointer (some ⟨By, 0, none⟩) := hk.o 6 (by kernel_rfl)
              clear hk
              go_simp
              exact hK _ _ (Ext.refl _) (fun d hd => by cases hd; rfl)
          · intro act w4 he
            have hxw4 := Hd.mk ((Ext.drew W3).trans he.ext)
            obtain ⟨us, hA, hF⟩ := he.out [33, 34, 35, 36, 37, 38, 39] (by kernel_rfl)
            simp only [Flow.fillL, List.contains_cons, List.contains_nil, Nat.reduceBEq, Bool.or_false, Bool.false_or, Bool.or_true, Bool.true_or, ↓reduceIte, Nat.reduceAdd, Bool.false_eq_true] at hA
            subst hA
            have f35 : (spT old W3.heap.size).p (us 35) w4 := hF 35 (by simp)
            have f38 : (spT node W3.heap.size).p (us 38) w4 := hF 38 (by simp)
            have f39 : us 39 = .pointer (some ⟨By, 0, none⟩) := hF 39 (by simp)
            clear hF he
            rw [f39]
            clear f39
            obtain ⟨cc, e35, hr3⟩ := (f35 : (spT _ _).p _ _)
            obtain ⟨K4, k4, rfl, hr4⟩ := hr3.row
            obtain ⟨dd, e38, hr9⟩ := (f38 : (spT _ _).p _ _)
            obtain ⟨K5, k5, rfl, hr6⟩ := hr9.row
            replace hr4 := Hd.mk hr4
            replace hr6 := Hd.mk hr6
            clear hr3 hr9
            generalize us 33 = u33 at *
            generalize us 34 = u34 at *
            generalize us 35 = u35 at *
            generalize us 36 = u36 at *
            generalize us 37 = u37 at *
            generalize us 38 = u38 at *
            subst e35
            subst e38
            replace hw4 := Hd.mk (hw4.out.ext hxw4.out)
            replace kxY := Hd.mk (kxY.out.trans hxw4.out)
            replace hY := Hd.mk (hY.out.ext hxw4.out)
            clear gX gY fY hlX
            have gY := hY.out.cell
            have fY := hY.out.free
            have hsz4 := hxw4.out.size
            have hx3 := hxw4
            simp only [cT, List.toList_toArray] at gY ⊢
            refine (show wpList _ _ _ (⟨none, .store 3 (.tmp 39) (.const (.int .i64 3)), _, _, _, none⟩ :: _) _ _ from ?_)
            go_wp2_with fail
            gi_wp2_with (with_reducible refine stopIn_at (.load 57 (.tmp 3)) ?_)
            refine Stop.mk ?_
            have hu := Hd.mk (((((((((((((Upd.setCell w4 ⟨By, 0, none⟩ (.int .i64 3)).trans (Upd.setCell _ ⟨By, 2, none⟩ (.string old.name))).trans (Upd.setCell _ ⟨By, 3, none⟩ (.string old.key))).trans (Upd.setCell _ ⟨By, 4, none⟩ (.int .i64 old.kind))).trans (Upd.setCell _ ⟨By, 5, none⟩ (.int .u64 old.num))).trans (Upd.setCell _ ⟨By, 6, none⟩ (.string old.text))).trans (Upd.setCell _ ⟨By, 7, none⟩ (.slice K4 old.kids.length k4))).trans (Upd.setCell _ ⟨By, 8, none⟩ (.string node.name))).trans (Upd.setCell _ ⟨By, 9, none⟩ (.string node.key))).trans (Upd.setCell _ ⟨By, 10, none⟩ (.int .i64 node.kind))).trans (Upd.setCell _ ⟨By, 11, none⟩ (.int .u64 node.num))).trans (Upd.setCell _ ⟨By, 12, none⟩ (.string node.text))).trans (Upd.setCell _ ⟨By, 13, none⟩ (.slice K5 node.kids.length k5)))
            have hD : Blk (((((((((((((w4.setCell ⟨By, 0, none⟩ (.int .i64 3)).setCell ⟨By, 2, none⟩ (.string old.name)).setCell ⟨By, 3, none⟩ (.string old.key)).setCell ⟨By, 4, none⟩ (.int .i64 old.kind)).setCell ⟨By, 5, none⟩ (.int .u64 old.num)).setCell ⟨By, 6, none⟩ (.string old.text)).setCell ⟨By, 7, none⟩ (.slice K4 old.kids.length k4)).setCell ⟨By, 8, none⟩ (.string node.name)).setCell ⟨By, 9, none⟩ (.string node.key)).setCell ⟨By, 10, none⟩ (.int .i64 node.kind)).setCell ⟨By, 11, none⟩ (.int .u64 node.num)).setCell ⟨By, 12, none⟩ (.string node.text)).setCell ⟨By, 13, none⟩ (.slice K5 node.kids.length k5)) By [.int .i64 3, .slice A4 way.length c4, .string old.name, .string old.key, .int .i64 old.kind, .int .u64 old.num, .string old.text, .slice K4 old.kids.length k4, .string node.name, .string node.key, .int .i64 node.kind, .int .u64 node.num, .string node.text, .slice K5 node.kids.length k5] 68 := (((((((((((((hY.out.setCell 0 (.int .i64 3)).setCell 2 (.string old.name)).setCell 3 (.string old.key)).setCell 4 (.int .i64 old.kind)).setCell 5 (.int .u64 old.num)).setCell 6 (.string old.text)).setCell 7 (.slice K4 old.kids.length k4)).setCell 8 (.string node.name)).setCell 9 (.string node.key)).setCell 10 (.int .i64 node.kind)).setCell 11 (.int .u64 node.num)).setCell 12 (.string node.text)).setCell 13 (.slice K5 node.kids.length k5))
            have hB4 := (hY.out.lt)
            replace hD := Hd.mk hD
            generalize hW5 : (((((((((((((w4.setCell ⟨By, 0, none⟩ (.int .i64 3)).setCell ⟨By, 2, none⟩ (.string old.name)).setCell ⟨By, 3, none⟩ (.string old.key)).setCell ⟨By, 4, none⟩ (.int .i64 old.kind)).setCell ⟨By, 5, none⟩ (.int .u64 old.num)).setCell ⟨By, 6, none⟩ (.string old.text)).setCell ⟨By, 7, none⟩ (.slice K4 old.kids.length k4)).setCell ⟨By, 8, none⟩ (.string node.name)).setCell ⟨By, 9, none⟩ (.string node.key)).setCell ⟨By, 10, none⟩ (.int .i64 node.kind)).setCell ⟨By, 11, none⟩ (.int .u64 node.num)).setCell ⟨By, 12, none⟩ (.string node.text)).setCell ⟨By, 13, none⟩ (.slice K5 node.kids.length k5)) = W5 at *
            clear hW5 gY fY hY
            have kx5 : Ext W W5 := Below.trans kxY.out (hu.out.below hBy)
            replace kx5 := Hd.mk kx5
            have hw5 : WRow (fun b => W.heap.size ≤ b ∧ b ≠ By) W5 A4 way c4 := hw4.out.keep (fun b off v hb hc => ⟨⟨hb.1, hb.2⟩, (World.cell?_of_block (hu.out.block b hb.2)).trans hc⟩)
            have hr5 : RRow (W.heap.size ≤ ·) W5 K4 old.kids k4 := hr4.out.keep (fun b off v hb hc => by have hb2 : W3.heap.size ≤ b := hb; exact ⟨by show W.heap.size ≤ b; omega, (World.cell?_of_block (hu.out.block b (by show b ≠ By; omega))).trans hc⟩)
            have hr7 : RRow (W.heap.size ≤ ·) W5 K5 node.kids k5 := hr6.out.keep (fun b off v hb hc => by have hb2 : W3.heap.size ≤ b := hb; exact ⟨by show W.heap.size ≤ b; omega, (World.cell?_of_block (hu.out.block b (by show b ≠ By; omega))).trans hc⟩)
            have hre : RE (W.heap.size ≤ ·) W5 (⟨3, way, old, node⟩ : E) [.int .i64 3, .slice A4 way.length c4, .string old.name, .string old.key, .int .i64 old.kind, .int .u64 old.num, .string old.text, .slice K4 old.kids.length k4, .string node.name, .string node.key, .int .i64 node.kind, .int .u64 node.num, .string node.text, .slice K5 node.kids.length k5] := ⟨A4, c4, _, _, _, _, rfl, hw5.mono (fun b _ h => h.1), hr5, hr7⟩
            replace hre := Hd.mk hre
            have hBx2 : W.heap.size ≤ By := hBy
            clear hw4 hw5 hr4 hr6 hu kxY hx3
            refine Flow.listIn_of_list (by rintro ⟨a0, w0, h⟩; exact hQ.out ⟨a0, w0, h⟩) _ rfl _ _ ?_
            obtain ⟨v, css, hos, hne, hsz, hx0⟩ := hI.out
            obtain ⟨V, vc, rfl, _⟩ := own_slice hos.own
            have hos0 := Hd.mk hos
            have hos5 := Hd.mk (hos.ext kx5.out)
            have hlt5 := Hd.mk (own_lt hos.own)
            replace hne := Hd.mk hne
            have hO := Hd.mk hos5.out.box
            have gO := hO.out.cell
            have fO := hO.out.free
            have gD := hD.out.cell
            have hlD := hD.out.lt
            have hlO := hO.out.lt
            clear hos hsz hx0
            go_wp2_with ((with_reducible refine stop_at (.call { callee := .builtin .append, args := #[.tmp 42, .tmp 44], argTypes := #[57, 57] }) ?_))
            refine Stop.mk ?_
            have hD6 := Hd.mk (Blk.new W5 #[.int .i64 3, .slice A4 way.length c4, .string old.name, .string old.key, .int .i64 old.kind, .int .u64 old.num, .string old.text, .slice K4 old.kids.length k4, .string node.name, .string node.key, .int .i64 node.kind, .int .u64 node.num, .string node.text, .slice K5 node.kids.length k5] 68)
            have kx6 := Hd.mk (Ext.alloc W5 (.cells #[.int .i64 3, .slice A4 way.length c4, .string old.name, .string old.key, .int .i64 old.kind, .int .u64 old.num, .string old.text, .slice K4 old.kids.length k4, .string node.name, .string node.key, .int .i64 node.kind, .int .u64 node.num, .string node.text, .slice K5 node.kids.length k5] 68))
            have hos6 := Hd.mk (hos5.out.ext kx6.out)
            have hre6 := Hd.mk (hre.out.ext kx6.out)
            have hs6 := kx5.out.size
            generalize W5.heap.size = B6 at *
            generalize W5.alloc _ = W6 at *
            refine wpl_append' sl57 (by omega) (by omega) (.tmp 42) (.tmp 44) 45 _ _ _ w.heap.size (.slice V done.length vc) done.length css.flatten rfl hos6.out.own ⟨B6, 0, none⟩ 1 1 _ rfl (by rw [hre6.out.len]) (fun i u hi => by rw [addr_add, Nat.zero_add, hD6.out.cell]; exact hi) hre6.out.one (by omega) (by have := hos6.out.box.lt; omega) ?_
            intro v' w' hown hgr hat
            obtain ⟨V', vc', rfl, _⟩ := own_slice hown
            have hp := Hd.mk (OutsN.push hos6.out (hre6.out.mono (fun b _ hb => by refine ⟨by omega, by omega, fun hh => ?_⟩; have h6 := hlt5.out b hh; omega)) hown hgr hat)
            have hbox := Hd.mk (grownBy_blk' hgr (fun e => hos6.out.ne e.symm) hos6.out.box)
            clear hown hgr hat gO fO gD hlD hlO
            have gO := hbox.out.cell
            have fO := hbox.out.free
            go_wp2_with fail
            have hfr := (Fr.of_ext (O := w.heap.size) (v := .slice V done.length vc) (kx5.out.trans kx6.out)).trans hp.out.2
            exact hQn.out _ _ (fr_keeps (hI2 := hos0.out.toOuts) hfr) (fr_kb hos0.out.toOuts hne.out hfr) ⟨_, _, hp.out.1, hfr.ne (by omega) hne.out, Nat.le_trans (by omega) hfr.size, Below.trans kxW.out (hfr.below (Nat.le_refl _) kxW.out.size hos0.out.base)⟩
        · gi_wp2
          exact hQn.out _ _ (KeepsFrom.of_grownBy (row := none) ⟨kxY.out.os, kxY.out.tape, kxY.out.output, kxY.out.size, fun k hk _ => kxY.out.block k hk⟩ (fun j e => by cases e)) ⟨kxY.out.mono kxW.out.size, fun cs t hb => hb.ext kxY.out⟩ (by rw [show inv1 ⟨kd, way, node, old⟩ = [] by simp [inv1, k1, k2, k3], List.append_nil]; exact hI.out.ext kxY.out)
  case done =>
    rintro D zs W hD hz hI hK
    have hz' : (zs.map (·.1.2.1)).flatMap inv1 = inverse es := congrArg (List.flatMap inv1) hz
    have hI' : InvN w (inverse es) W := Eq.mp (congrArg (fun q => InvN w q W) hz') hI
    clear hI hz hz'
    obtain ⟨v, css, ho, hne, hsz2, hx0⟩ := hI'
    obtain ⟨A6, c6, rfl, hrow⟩ := ho.row (Nat.le_trans (inverse_len es) hlen)
    have hO := Hd.mk ho.box
    have gO := hO.out.cell
    replace hrow := Hd.mk hrow
    replace hx0 := Hd.mk hx0
    have hKd := Hd.mk hK
    clear ho hK
    gi_wp2
    refine ⟨by simp, .inl ⟨_, _, rfl, run_takeDeferred hKd.out, ?_⟩⟩
    exact ⟨_, results_tmp rfl _ _ _, _, rfl, A6, c6, rfl, hrow.out.keep (fun b off u hb hc => ⟨hb, cell_kept hc (grownBy_putObj' W D _) (fun r e => by cases e; exact ⟨_, hKd.out, rfl⟩)⟩), Below.grown hx0.out (grownBy_putObj' W D _) hx0.out.size (fun k e => by cases e; omega)⟩
  case stop =>
    rintro D c pre W _ _ h _
    exact h.elim
end Go.Proofs.Ytgkgedjmnbjalaa
set_option linter.unusedSimpArgs false
set_option linter.unusedVariables false
namespace Go.Proofs.Ytgkgedjmnbjalaa
open Go.RowKit Go.Sort
def findAt : List T → Step → Nat → Int
  | [], _, _ => -1
  | x :: l, s, j => if stepT x = s then (j : Int) else findAt l s (j + 1)
def findT (l : List T) (s : Step) : Int := findAt l s 0
theorem findAt_drop {l : List T} {j : Nat} {x : T} (h : l[j]? = some x) (s : Step) : findAt (l.drop j) s j = if stepT x = s then (j : Int) else findAt (l.drop (j + 1)) s (j + 1) := by
  obtain ⟨h1, h2⟩ := List.getElem?_eq_some_iff.1 h
  rw [List.drop_eq_getElem_cons h1, h2, findAt]
theorem findAt_spec : ∀ (l : List T) (s : Step) (j : Nat), (findAt l s j = -1 ∧ ∀ x ∈ l, stepT x ≠ s) ∨ ∃ i x, findAt l s j = ((j + i : Nat) : Int) ∧ l[i]? = some x ∧ stepT x = s ∧ ∀ k y, k < i → l[k]? = some y → stepT y ≠ s
  | [], s, j => .inl ⟨rfl, by simp⟩
  | x :: l, s, j => by
    by_cases h : stepT x = s
    · exact .inr ⟨0, x, by rw [findAt, if_pos h]; rfl, rfl, h, fun k y hk => absurd hk (by omega)⟩
    · rw [findAt, if_neg h]
      rcases findAt_spec l s (j + 1) with ⟨h1, h2⟩ | ⟨i, y, h1, h2, h3, h4⟩
      · exact .inl ⟨h1, fun y hy => by rcases List.mem_cons.1 hy with rfl | hy; exact h; exact h2 y hy⟩
      · refine .inr ⟨i + 1, y, by rw [h1]; congr 1; omega, by simpa using h2, h3, fun k z hk hz => ?_⟩
        cases k with
        | zero => simp at hz; subst hz; exact h
        | succ k => exact h4 k z (by omega) (by simpa using hz)
theorem findT_spec (l : List T) (s : Step) : (findT l s = -1 ∧ ∀ x ∈ l, stepT x ≠ s) ∨ ∃ (i : Nat) (x : T), findT l s = (i : Int) ∧ l[i]? = some x ∧ stepT x = s ∧ ∀ (k : Nat) y, k < i → l[k]? = some y → stepT y ≠ s := by
  rcases findAt_spec l s 0 with h | ⟨i, x, h1, h2⟩
  · exact .inl h
  · exact .inr ⟨i, x, by rw [findT, h1, Nat.zero_add], h2⟩
theorem edits_front : ∀ (N : Nat) (a b : T) (way : List Step), ∀ e ∈ edits N a b way, ∃ s r, e.way = way ++ s :: r
  | 0, _, _, _ => by simp [edits]
  | N + 1, a, b, way => by
    rw [edits]
    refine mergeE_all _ _ _ (fun x _ e he => ?_) (fun y _ e he => ?_) (fun x _ y _ _ e he => ?_)
    · simp [cutE] at he; subst he; exact ⟨_, [], rfl⟩
    · simp [setE] at he; subst he; exact ⟨_, [], rfl⟩
    · unfold bothE at he
      split at he
      · cases he
      · split at he
        · simp at he; subst he; exact ⟨_, [], rfl⟩
        · split at he
          · simp [cutE, setE] at he
            rcases he with rfl | rfl
            · exact ⟨_, [], rfl⟩
            · exact ⟨_, [], rfl⟩
          · obtain ⟨s, r, h⟩ := edits_front N x y _ e he
            exact ⟨stepT x, s :: r, by rw [h]; simp⟩
theorem less_ne {x y : T} (h : lessT x y = true) : stepT x ≠ stepT y := fun e => by
  have := (lessT_step (z := y) e).1
  rw [h, lessT_irr] at this
  cases this
end Go.Proofs.Ytgkgedjmnbjalaa
set_option linter.unusedSimpArgs false
set_option linter.unusedVariables false
namespace Go.Proofs.Ytgkgedjmnbjalaa
open Go.RowKit Go.Sort
abbrev Pe := List E × Option Addr × Nat
def vP (x : Pe) : Value := .slice x.2.1 x.1.length x.2.2
theorem sl144 : SlT Try.prog 144 57 1 24 := slT_mk Try.underlying144 (by kernel_rfl)
structure PastR (G : Nat → Prop) (w : World) (p : Nat) (V : Value) (l : List Pe) : Prop where
  box : Blk w p [V, .int .i64 8] 148
  own : w.ownsRow (p + 1) 57 1 V l.length (l.map vP)
  len : l.length ≤ 8
  row : ∀ b, V.ownBlock = some b → G b
  each : ∀ x ∈ l, ERow (fun b => p < b ∧ V.ownBlock ≠ some b ∧ G b) w x.2.1 x.1 x.2.2
theorem PastR.ext {G : Nat → Prop} {w w' : World} {p : Nat} {V : Value} {l : List Pe} (h : PastR G w p V l) (hx : Ext w w') : PastR G w' p V l :=
  ⟨h.box.ext hx, own_ext hx h.own, h.len, h.row, fun x hm => (h.each x hm).ext hx⟩
theorem PastR.ne {G : Nat → Prop} {w : World} {p : Nat} {V : Value} {l : List Pe} (h : PastR G w p V l) : V.ownBlock ≠ some p := fun e => by have := own_base h.own p e; omega
theorem PastR.put {G : Nat → Prop} {w w' : World} {p : Nat} {V V' : Value} {l : List Pe} {x : Pe} (h : PastR G w p V l) (hx : ERow (fun b => p < b ∧ V.ownBlock ≠ some b ∧ G b) w x.2.1 x.1 x.2.2) (h8 : l.length < 8) (hG : ∀ b, w.heap.size ≤ b → G b)
    (hown : w'.ownsRow (p + 1) 57 1 V' (l.length + 1) (l.map vP ++ [vP x])) (hg : w.grownBy w' V.ownBlock) (hat : V'.ownBlock = V.ownBlock ∨ V'.ownBlock = some w.heap.size) :
    PastR G (w'.setCell ⟨p, 0, none⟩ V') p V' (l ++ [x]) ∧ Fr p w V (w'.setCell ⟨p, 0, none⟩ V') V' := by
  have hu := Upd.setCell w' ⟨p, 0, none⟩ V'
  have hlt := h.box.lt
  have hne : V'.ownBlock ≠ some p := by
    rcases hat with e | e
    · rw [e]; exact h.ne
    · rw [e]; intro he; injection he with he; omega
  have hfr : Fr p w V (w'.setCell ⟨p, 0, none⟩ V') V' := by
    refine ⟨hu.os.trans hg.os, hu.tape.trans hg.tape, hu.output.trans hg.output, by rw [hu.size]; exact hg.size, fun b hb h1 h2 => (hu.block b h1).trans (hg.block b hb (fun e => h2 e.symm)), ?_⟩
    rcases hat with e | e
    · exact .inl e
    · exact .inr ⟨_, e, Nat.le_refl _⟩
  have hbox : Blk w' p [V, .int .i64 8] 148 := (hg.block p hlt (fun e => h.ne e.symm)).trans h.box
  have hk : ∀ b off u, (p < b ∧ V.ownBlock ≠ some b ∧ G b) → w.cell? ⟨b, off, none⟩ = some u → (p < b ∧ V'.ownBlock ≠ some b ∧ G b) ∧ (w'.setCell ⟨p, 0, none⟩ V').cell? ⟨b, off, none⟩ = some u := fun b off u hb hc => by
    have h9 := hfr.keep b off u ⟨by omega, hb.2.1⟩ hc
    exact ⟨⟨hb.1, h9.1.2, hb.2.2⟩, h9.2⟩
  refine ⟨⟨hbox.setCell 0 V', ?_, by simp; omega, fun b hb => ?_, fun y hy => ?_⟩, hfr⟩
  · have h2 : (w'.setCell ⟨p, 0, none⟩ V').ownsRow (p + 1) 57 1 V' (l.length + 1) (l.map vP ++ [vP x]) := by
      refine hown.kept (row := some p) ⟨hu.os, hu.tape, hu.output, Nat.le_of_eq hu.size.symm, fun k _ hk => hu.block k (fun e => hk (by rw [e]))⟩ ?_
      rcases hown.2 with ⟨h1, _⟩ | ⟨g, cap, cur, hv, _⟩
      · left; rw [h1]; rfl
      · right; exact hne
    simpa using h2
  · rcases hat with e | e
    · rw [e] at hb; exact h.row b hb
    · rw [e] at hb; injection hb with hb; exact hG b (Nat.le_of_eq hb)
  · rcases List.mem_append.1 hy with hy | hy
    · exact (h.each y hy).keep hk
    · simp at hy; subst hy; exact hx.keep hk
set_option maxRecDepth 100000 in
set_option maxHeartbeats 4000000 in
theorem row_push (G : Nat → Prop) (w : World) (p : Nat) (V : Value) (l : List Pe) (x : Pe) (h : PastR G w p V l) (hx : ERow (fun b => p < b ∧ V.ownBlock ≠ some b ∧ G b) w x.2.1 x.1 x.2.2) (hG : ∀ b, w.heap.size ≤ b → G b) :
    Calls Try.prog 128 #[.pointer (some ⟨p, 0, none⟩), vP x] w fun e w' => (l.length < 8 ∧ e = .returned (.bool true) ∧ ∃ V', PastR G w' p V' (l ++ [x]) ∧ Fr p w V w' V') ∨ (l.length = 8 ∧ e = .returned (.bool false) ∧ Ext w w') := by
  obtain ⟨L, cap, rfl, hcap, _⟩ := own_slice h.own
  have hl8 := h.len
  have hB := Hd.mk h.box
  have kr := Hd.mk h
  replace hx := Hd.mk hx
  replace hG := Hd.mk hG
  clear h
  unfold vP
  go_enter Try.func128, Try.ntmps128
  go_wp2_with fail
  by_cases hfull : l.length = 8
  · have hge : (8 : Int) ≤ (l.length : Int) := by omega
    replace hfull := Hd.mk hfull
    refine Flow.wp_region_flow_l (fun qq => match qq with
      | 5 => SP.eq (.pointer (some ⟨p, 0, none⟩))
      | 6 => SP.eq (.pointer (some ⟨p, 0, none⟩))
      | 7 => SP.eq (.pointer (some ⟨p, 0, none⟩))
      | 8 => SP.eq (.slice L l.length cap)
      | 9 => SP.eq (.int .i64 (l.length : Nat))
      | 10 => SP.eq (.pointer (some ⟨p, 0, none⟩))
      | 11 => SP.eq (.pointer (some ⟨p, 0, none⟩))
      | 12 => SP.eq (.pointer (some ⟨p, 1, none⟩))
      | 13 => SP.eq (.int .i64 8)
      | 14 => SP.eq (.bool true)
      | _ => SP.any) 10 (by kernel_rfl) 25 rfl (by kernel_rfl) ?_ ?_
    · skip
      refine ⟨?_, ?_, ?_, ?_, ?_, ?_, ?_, ?_, ?_, ?_, trivial⟩
      · intro act W2 hk
        refine Flow.does_intro rfl (fun Kq hK => ?_)
        have e0 : act.tmps[0]?.getD undef = .pointer (some ⟨p, 0, none⟩) := hk.o 0 (by kernel_rfl)
        clear hk
        go_simp
        exact hK _ _ (Ext.refl _) (fun d hd => by cases hd; rfl)
      · intro act W2 hk
        refine Flow.does_intro rfl (fun Kq hK => ?_)
        have e5 : act.tmps[5]?.getD undef = .pointer (some ⟨p, 0, none⟩) := hk.v 5 (by kernel_rfl)
        clear hk
        go_simp
        exact hK _ _ (Ext.refl _) (fun d hd => by cases hd; rfl)
      · intro act W2 hk
        refine Flow.does_intro rfl (fun Kq hK => ?_)
        have e6 : act.tmps[6]?.getD undef = .pointer (some ⟨p, 0, none⟩) := hk.v 6 (by kernel_rfl)
        clear hk
        go_simp
        exact hK _ _ (Ext.refl _) (fun d hd => by cases hd; rfl)
      · intro act W2 hk
        refine Flow.does_intro rfl (fun Kq hK => ?_)
        have e7 : act.tmps[7]?.getD undef = .pointer (some ⟨p, 0, none⟩) := hk.v 7 (by kernel_rfl)
        have g := ((hB.out).ext ((Ext.drew w).trans hk.ext)).cell
        clear hk
        go_simp
        exact hK _ _ (Ext.refl _) (fun d hd => by cases hd; rfl)
      · intro act W2 hk
        refine Flow.does_intro rfl (fun Kq hK => ?_)
        have e8 : act.tmps[8]?.getD undef = .slice L l.length cap := hk.v 8 (by kernel_rfl)
        clear hk
        go_simp
        exact hK _ _ (Ext.refl _) (fun d hd => by cases hd; rfl)
      · intro act W2 hk
        refine Flow.does_intro rfl (fun Kq hK => ?_)
        have e0 : act.tmps[0]?.getD undef = .pointer (some ⟨p, 0, none⟩) := hk.o 0 (by kernel_rfl)
        clear hk
        go_simp
        exact hK _ _ (Ext.refl _) (fun d hd => by cases hd; rfl)
      · intro act W2 hk
        refine Flow.does_intro rfl (fun Kq hK => ?_)
        have e10 : act.tmps[10]?.getD undef = .pointer (some ⟨p, 0, none⟩) := hk.v 10 (by kernel_rfl)
        clear hk
        go_simp
        exact hK _ _ (Ext.refl _) (fun d hd => by cases hd; rfl)
      · intro act W2 hk
        refine Flow.does_intro rfl (fun Kq hK => ?_)
        have e11 : act.tmps[11]?.getD undef = .pointer (some ⟨p, 0, none⟩) := hk.v 11 (by kernel_rfl)
        clear hk
        go_simp
        exact hK _ _ (Ext.refl _) (fun d hd => by cases hd; rfl)
      · intro act W2 hk
        refine Flow.does_intro rfl (fun Kq hK => ?_)
        have e12 : act.tmps[12]?.getD undef = .pointer (some ⟨p, 1, none⟩) := hk.v 12 (by kernel_rfl)
        have g := ((hB.out).ext ((Ext.drew w).trans hk.ext)).cell
        clear hk
        go_simp
        exact hK _ _ (Ext.refl _) (fun d hd => by cases hd; rfl)
      · intro act W2 hk
        refine Flow.does_intro rfl (fun Kq hK => ?_)
        have e9 : act.tmps[9]?.getD undef = .int .i64 (l.length : Nat) := hk.v 9 (by kernel_rfl)
        have e13 : act.tmps[13]?.getD undef = .int .i64 8 := hk.v 13 (by kernel_rfl)
        have hgi := hge
        clear hk
        go_simp
        exact hK _ _ (Ext.refl _) (fun d hd => by cases hd; rfl)
    · intro act W2 he
      have hxW2 := Hd.mk ((Ext.drew w).trans he.ext)
      obtain ⟨us, hA, hF⟩ := he.out [5, 6, 7, 8, 9, 10, 11, 12, 13, 14] (by kernel_rfl)
      simp only [Flow.fillL, List.contains_cons, List.contains_nil, Nat.reduceBEq, Bool.or_false, Bool.false_or, Bool.or_true, Bool.true_or, ↓reduceIte, Nat.reduceAdd, Bool.false_eq_true] at hA
      subst hA
      have f14 : us 14 = .bool true := hF 14 (by simp)
      clear hF he
      rw [f14]
      clear f14
      refine (show wpList _ _ _ [] _ _ from ?_)
      go_wp2_with fail
      go_ret
      exact .inr ⟨hfull.out, rfl, hxW2.out⟩
  · have hge : ¬ (8 : Int) ≤ (l.length : Int) := by omega
    replace hfull := Hd.mk hfull
    refine Flow.wp_region_flow_l (fun qq => match qq with
      | 5 => SP.eq (.pointer (some ⟨p, 0, none⟩))
      | 6 => SP.eq (.pointer (some ⟨p, 0, none⟩))
      | 7 => SP.eq (.pointer (some ⟨p, 0, none⟩))
      | 8 => SP.eq (.slice L l.length cap)
      | 9 => SP.eq (.int .i64 (l.length : Nat))
      | 10 => SP.eq (.pointer (some ⟨p, 0, none⟩))
      | 11 => SP.eq (.pointer (some ⟨p, 0, none⟩))
      | 12 => SP.eq (.pointer (some ⟨p, 1, none⟩))
      | 13 => SP.eq (.int .i64 8)
      | 14 => SP.eq (.bool false)
      | _ => SP.any) 10 (by kernel_rfl) 25 rfl (by kernel_rfl) ?_ ?_
    · skip
      refine ⟨?_, ?_, ?_, ?_, ?_, ?_, ?_, ?_, ?_, ?_, trivial⟩
      · intro act W2 hk
        refine Flow.does_intro rfl (fun Kq hK => ?_)
        have e0 : act.tmps[0]?.getD undef = .pointer (some ⟨p, 0, none⟩) := hk.o 0 (by kernel_rfl)
        clear hk
        go_simp
        exact hK _ _ (Ext.refl _) (fun d hd => by cases hd; rfl)
      · intro act W2 hk
        refine Flow.does_intro rfl (fun Kq hK => ?_)
        have e5 : act.tmps[5]?.getD undef = .pointer (some ⟨p, 0, none⟩) := hk.v 5 (by kernel_rfl)
        clear hk
        go_simp
        exact hK _ _ (Ext.refl _) (fun d hd => by cases hd; rfl)
      · intro act W2 hk
        refine Flow.does_intro rfl (fun Kq hK => ?_)
        have e6 : act.tmps[6]?.getD undef = .pointer (some ⟨p, 0, none⟩) := hk.v 6 (by kernel_rfl)
        clear hk
        go_simp
        exact hK _ _ (Ext.refl _) (fun d hd => by cases hd; rfl)
      · intro act W2 hk
        refine Flow.does_intro rfl (fun Kq hK => ?_)
        have e7 : act.tmps[7]?.getD undef = .pointer (some ⟨p, 0, none⟩) := hk.v 7 (by kernel_rfl)
        have g := ((hB.out).ext ((Ext.drew w).trans hk.ext)).cell
        clear hk
        go_simp
        exact hK _ _ (Ext.refl _) (fun d hd => by cases hd; rfl)
      · intro act W2 hk
        refine Flow.does_intro rfl (fun Kq hK => ?_)
        have e8 : act.tmps[8]?.getD undef = .slice L l.length cap := hk.v 8 (by kernel_rfl)
        clear hk
        go_simp
        exact hK _ _ (Ext.refl _) (fun d hd => by cases hd; rfl)
      · intro act W2 hk
        refine Flow.does_intro rfl (fun Kq hK => ?_)
        have e0 : act.tmps[0]?.getD undef = .pointer (some ⟨p, 0, none⟩) := hk.o 0 (by kernel_rfl)
        clear hk
        go_simp
        exact hK _ _ (Ext.refl _) (fun d hd => by cases hd; rfl)
      · intro act W2 hk
        refine Flow.does_intro rfl (fun Kq hK => ?_)
        have e10 : act.tmps[10]?.getD undef = .pointer (some ⟨p, 0, none⟩) := hk.v 10 (by kernel_rfl)
        clear hk
        go_simp
        exact hK _ _ (Ext.refl _) (fun d hd => by cases hd; rfl)
      · intro act W2 hk
        refine Flow.does_intro rfl (fun Kq hK => ?_)
        have e11 : act.tmps[11]?.getD undef = .pointer (some ⟨p, 0, none⟩) := hk.v 11 (by kernel_rfl)
        clear hk
        go_simp
        exact hK _ _ (Ext.refl _) (fun d hd => by cases hd; rfl)
      · intro act W2 hk
        refine Flow.does_intro rfl (fun Kq hK => ?_)
        have e12 : act.tmps[12]?.getD undef = .pointer (some ⟨p, 1, none⟩) := hk.v 12 (by kernel_rfl)
        have g := ((hB.out).ext ((Ext.drew w).trans hk.ext)).cell
        clear hk
        go_simp
        exact hK _ _ (Ext.refl _) (fun d hd => by cases hd; rfl)
      · intro act W2 hk
        refine Flow.does_intro rfl (fun Kq hK => ?_)
        have e9 : act.tmps[9]?.getD undef = .int .i64 (l.length : Nat) := hk.v 9 (by kernel_rfl)
        have e13 : act.tmps[13]?.getD undef = .int .i64 8 := hk.v 13 (by kernel_rfl)
        have hgi := hge
        clear hk
        go_simp
        exact hK _ _ (Ext.refl _) (fun d hd => by cases hd; rfl)
    · intro act W2 he
      have hxW2 := Hd.mk ((Ext.drew w).trans he.ext)
      obtain ⟨us, hA, hF⟩ := he.out [5, 6, 7, 8, 9, 10, 11, 12, 13, 14] (by kernel_rfl)
      simp only [Flow.fillL, List.contains_cons, List.contains_nil, Nat.reduceBEq, Bool.or_false, Bool.false_or, Bool.or_true, Bool.true_or, ↓reduceIte, Nat.reduceAdd, Bool.false_eq_true] at hA
      subst hA
      have f14 : us 14 = .bool false := hF 14 (by simp)
      clear hF he
      rw [f14]
      clear f14
      refine (show wpList _ _ _ [] _ _ from ?_)
      replace kr := Hd.mk (kr.out.ext hxW2.out)
      replace hx := Hd.mk (hx.out.ext hxW2.out)
      have gB := (kr.out.box).cell
      go_wp2_with (with_reducible refine stop_at (.call { callee := .builtin .append, args := #[.tmp 19, .tmp 21], argTypes := #[144, 144] }) ?_)
      refine Stop.mk ?_
      have kD := Hd.mk (Blk.new W2 #[.slice x.2.1 x.1.length x.2.2] 57)
      have hxA := Hd.mk (Ext.alloc W2 (.cells #[.slice x.2.1 x.1.length x.2.2] 57))
      replace kr := Hd.mk (kr.out.ext hxA.out)
      replace hx := Hd.mk (hx.out.ext hxA.out)
      replace hxW2 := Hd.mk (hxW2.out.trans hxA.out)
      clear gB hxA
      have hGs := Hd.mk (show ∀ b, (W2.alloc (.cells #[.slice x.2.1 x.1.length x.2.2] 57)).heap.size ≤ b → G b from fun b hb => hG.out b (Nat.le_trans hxW2.out.size hb))
      generalize W2.heap.size = D at *
      generalize W2.alloc _ = W3 at *
      refine wpl_append' sl144 (by omega) (by omega) (.tmp 19) (.tmp 21) 22 _ _ _ (p + 1) (.slice L l.length cap) l.length (l.map vP) rfl kr.out.own ⟨D, 0, none⟩ 1 1 [vP x] rfl rfl (fun i u hi => by rw [addr_add, Nat.zero_add, kD.out.cell]; exact hi) rfl (by omega) (by have := kr.out.box.lt; omega) ?_
      intro v' w' hown hgr hat
      obtain ⟨V', vc', rfl, _⟩ := own_slice hown
      have hp := Hd.mk (PastR.put kr.out hx.out (by have := hfull.out; omega) hGs.out hown hgr hat)
      have hbox := Hd.mk (grownBy_blk' hgr (fun e => kr.out.ne e.symm) kr.out.box)
      clear hown hgr hat
      have gO := hbox.out.cell
      have fO := hbox.out.free
      go_wp2_with fail
      go_ret
      exact .inl ⟨by have := hfull.out; omega, rfl, _, hp.out.1, (Fr.of_ext hxW2.out).trans hp.out.2⟩
set_option maxRecDepth 100000 in
set_option maxHeartbeats 2000000 in
theorem past_len (G : Nat → Prop) (w : World) (p : Nat) (V : Value) (l : List Pe) (h : PastR G w p V l) :
    Calls Try.prog 84 #[.pointer (some ⟨p, 0, none⟩)] w fun e w' => e = .returned (.int .i64 (l.length : Nat)) ∧ Ext w w' := by
  obtain ⟨L, cap, rfl, hcap, _⟩ := own_slice h.own
  have gB := h.box.cell
  clear h
  go_enter Try.func84, Try.ntmps84
  go_wp2_with fail
  go_ret
  exact ⟨rfl, Ext.refl _⟩
end Go.Proofs.Ytgkgedjmnbjalaa
set_option linter.unusedSimpArgs false
set_option linter.unusedVariables false
namespace Go.Proofs.Ytgkgedjmnbjalaa
open Go.RowKit Go.Sort
def T.wk (t : T) (l : List T) : T := .mk t.name t.key t.kind t.num t.text l
theorem wk_self (t : T) : t.wk t.kids = t := by cases t; rfl
theorem wk_kids (t : T) (l : List T) : (t.wk l).kids = l := rfl
theorem wk_kind (t : T) (l : List T) : (t.wk l).kind = t.kind := rfl
theorem wk_wk (t : T) (l m : List T) : (t.wk l).wk m = t.wk m := rfl
theorem wk_size (t : T) (l : List T) : (t.wk l).size = 1 + sizeL l := by rw [T.size_eq]; rfl
theorem wk_deep (t : T) (l : List T) : (t.wk l).deep = 1 + deepL l := by rw [T.deep_eq]; rfl
def kid (l : List T) (s : Step) : Option T := l.find? (fun x => decide (stepT x = s))
def repL : List T → Step → T → List T
  | [], _, _ => []
  | y :: l, s, x => if stepT y = s then x :: l else y :: repL l s x
def cutL : List T → Step → List T
  | [], _ => []
  | y :: l, s => if stepT y = s then l else y :: cutL l s
def insL : List T → T → List T
  | [], x => [x]
  | y :: l, x => if lessT y x = true then y :: insL l x else x :: y :: l
def setL (l : List T) (x : T) : List T := if (kid l (stepT x)).isSome = true then repL l (stepT x) x else insL l x
theorem kid_none {l : List T} {s : Step} : kid l s = none ↔ ∀ x ∈ l, stepT x ≠ s := by simp [kid]
theorem kid_some {l : List T} {s : Step} {x : T} (h : kid l s = some x) : ∃ pre suf, l = pre ++ x :: suf ∧ stepT x = s ∧ ∀ p ∈ pre, stepT p ≠ s := by
  obtain ⟨h1, pre, suf, h2, h3⟩ := List.find?_eq_some_iff_append.1 h
  exact ⟨pre, suf, h2, by simpa using h1, fun p hp => by simpa using h3 p hp⟩
theorem kid_pre {s : Step} : ∀ {pre : List T}, (∀ p ∈ pre, stepT p ≠ s) → ∀ l, kid (pre ++ l) s = kid l s
  | [], _, l => rfl
  | p :: pre, h, l => by
    have h1 := h p (by simp)
    have h2 := kid_pre (pre := pre) (fun q hq => h q (by simp [hq])) l
    simp only [kid, List.cons_append, List.find?_cons] at h2 ⊢
    rw [decide_eq_false h1]
    exact h2
theorem rep_pre {s : Step} {x : T} : ∀ {pre : List T}, (∀ p ∈ pre, stepT p ≠ s) → ∀ l, repL (pre ++ l) s x = pre ++ repL l s x
  | [], _, l => rfl
  | p :: pre, h, l => by
    have h1 := h p (by simp)
    have h2 := rep_pre (x := x) (pre := pre) (fun q hq => h q (by simp [hq])) l
    simp only [List.cons_append, repL, if_neg h1, h2]
theorem cut_pre {s : Step} : ∀ {pre : List T}, (∀ p ∈ pre, stepT p ≠ s) → ∀ l, cutL (pre ++ l) s = pre ++ cutL l s
  | [], _, l => rfl
  | p :: pre, h, l => by
    have h1 := h p (by simp)
    have h2 := cut_pre (pre := pre) (fun q hq => h q (by simp [hq])) l
    simp only [List.cons_append, cutL, if_neg h1, h2]
theorem ins_pre {x : T} : ∀ {pre : List T}, (∀ p ∈ pre, lessT p x = true) → ∀ l, insL (pre ++ l) x = pre ++ insL l x
  | [], _, l => rfl
  | p :: pre, h, l => by
    have h1 := h p (by simp)
    have h2 := ins_pre (pre := pre) (fun q hq => h q (by simp [hq])) l
    simp only [List.cons_append, insL, if_pos h1, h2]
theorem kid_at {s : Step} {pre suf : List T} {x : T} (h : ∀ p ∈ pre, stepT p ≠ s) (hx : stepT x = s) : kid (pre ++ x :: suf) s = some x := by
  rw [kid_pre h]; simp [kid, hx]
theorem rep_at {s : Step} {pre suf : List T} {x y : T} (h : ∀ p ∈ pre, stepT p ≠ s) (hx : stepT x = s) : repL (pre ++ x :: suf) s y = pre ++ y :: suf := by
  rw [rep_pre h]; simp [repL, hx]
theorem cut_at {s : Step} {pre suf : List T} {x : T} (h : ∀ p ∈ pre, stepT p ≠ s) (hx : stepT x = s) : cutL (pre ++ x :: suf) s = pre ++ suf := by
  rw [cut_pre h]; simp [cutL, hx]
theorem ins_at {pre suf : List T} {x : T} (h : ∀ p ∈ pre, lessT p x = true) (hx : ∀ z ∈ suf, lessT x z = true) : insL (pre ++ suf) x = pre ++ x :: suf := by
  rw [ins_pre h]
  cases suf with
  | nil => rfl
  | cons z suf => simp [insL, lessT_asymm (hx z (by simp))]
def Srt (l : List T) : Prop := l.Pairwise (fun a b => lessT a b = true)
theorem right_srt : ∀ {l : List T} {p : Option T}, rightL p l = true ↔ (∀ x ∈ l, rightT x = true) ∧ Srt l ∧ ∀ q, p = some q → ∀ x ∈ l, lessT q x = true
  | [], p => by simp [rightL, Srt]
  | x :: l, p => by
    rw [rightL_cons, Bool.and_eq_true, Bool.and_eq_true, right_srt (l := l) (p := some x)]
    constructor
    · rintro ⟨⟨h1, h2⟩, h3, h4, h5⟩
      refine ⟨fun y hy => ?_, List.pairwise_cons.2 ⟨h5 x rfl, h4⟩, fun q hq y hy => ?_⟩
      · rcases List.mem_cons.1 hy with rfl | hy
        · exact h1
        · exact h3 y hy
      · subst hq
        simp only at h2
        rcases List.mem_cons.1 hy with rfl | hy
        · exact h2
        · exact lessT_trans h2 (h5 x rfl y hy)
    · rintro ⟨h1, h2, h3⟩
      have h2' := List.pairwise_cons.1 h2
      refine ⟨⟨h1 x (by simp), ?_⟩, fun y hy => h1 y (by simp [hy]), h2'.2, fun q hq y hy => by cases hq; exact h2'.1 y hy⟩
      cases p with
      | none => rfl
      | some q => exact h3 q rfl x (by simp)
theorem right_box {t : T} (h : t.kind = 0) : rightT t = true ↔ t.num = 0 ∧ t.text = ⟨#[]⟩ ∧ (∀ x ∈ t.kids, rightT x = true) ∧ Srt t.kids := by
  constructor
  · intro hr
    obtain ⟨h1, h2, h3⟩ := right_zero hr h
    obtain ⟨h4, h5, _⟩ := right_srt.1 h3
    exact ⟨h1, h2, h4, h5⟩
  · rintro ⟨h1, h2, h3, h4⟩
    have h5 : rightL none t.kids = true := right_srt.2 ⟨h3, h4, fun q hq => by cases hq⟩
    obtain ⟨n, k, d, m, x, l⟩ := t
    simp only [T.kind, T.num, T.text, T.kids] at h h1 h2 h5
    subst h h1 h2
    simp [rightT, h5]
theorem right_kid' {t x : T} (h : rightT t = true) (hx : x ∈ t.kids) : t.kind = 0 ∧ rightT x = true := by
  by_cases h0 : t.kind = 0
  · exact ⟨h0, ((right_box h0).1 h).2.2.1 x hx⟩
  · rw [right_leaf h h0] at hx; cases hx
theorem srt_split {pre suf : List T} {x : T} (h : Srt (pre ++ x :: suf)) : (∀ p ∈ pre, lessT p x = true) ∧ (∀ z ∈ suf, lessT x z = true) ∧ Srt (pre ++ suf) ∧ ∀ y, stepT y = stepT x → Srt (pre ++ y :: suf) := by
  obtain ⟨h1, h2, h3⟩ := List.pairwise_append.1 h
  obtain ⟨h4, h5⟩ := List.pairwise_cons.1 h2
  have h6 : ∀ p ∈ pre, lessT p x = true := fun p hp => h3 p hp x (by simp)
  refine ⟨h6, h4, List.pairwise_append.2 ⟨h1, h5, fun p hp z hz => h3 p hp z (by simp [hz])⟩, fun y hy => List.pairwise_append.2 ⟨h1, List.pairwise_cons.2 ⟨fun z hz => ?_, h5⟩, fun p hp z hz => ?_⟩⟩
  · rw [(lessT_step (z := z) hy).1]; exact h4 z hz
  · rcases List.mem_cons.1 hz with rfl | hz
    · rw [(lessT_step (z := p) hy).2]; exact h6 p hp
    · exact h3 p hp z (by simp [hz])
theorem srt_ins {x : T} : ∀ {l : List T}, Srt l → (∀ y ∈ l, stepT y ≠ stepT x) → ∃ pre suf, l = pre ++ suf ∧ (∀ p ∈ pre, lessT p x = true) ∧ (∀ z ∈ suf, lessT x z = true) ∧ Srt (pre ++ x :: suf)
  | [], _, _ => ⟨[], [], rfl, by simp, by simp, by simp [Srt]⟩
  | y :: l, h, hn => by
    obtain ⟨h1, h2⟩ := List.pairwise_cons.1 h
    by_cases hy : lessT y x = true
    · obtain ⟨pre, suf, rfl, e2, e3, e4⟩ := srt_ins h2 (fun z hz => hn z (by simp [hz]))
      refine ⟨y :: pre, suf, rfl, fun p hp => ?_, e3, List.pairwise_cons.2 ⟨fun z hz => ?_, e4⟩⟩
      · rcases List.mem_cons.1 hp with rfl | hp
        · exact hy
        · exact e2 p hp
      · rcases List.mem_append.1 hz with hz | hz
        · exact h1 z (by simp [hz])
        · rcases List.mem_cons.1 hz with rfl | hz
          · exact hy
          · exact h1 z (by simp [hz])
    · have hxy : lessT x y = true := by
        cases hc : lessT x y with
        | true => rfl
        | false => exact absurd (step_of_less (by simpa using hy) hc) (hn y (by simp))
      refine ⟨[], y :: l, rfl, by simp, fun z hz => ?_, List.pairwise_cons.2 ⟨fun z hz => ?_, h⟩⟩
      all_goals
        rcases List.mem_cons.1 hz with rfl | hz
        · exact hxy
        · exact lessT_trans hxy (h1 z hz)
theorem setL_new {l : List T} {x : T} (h : Srt l) (hk : kid l (stepT x) = none) : ∃ pre suf, l = pre ++ suf ∧ setL l x = pre ++ x :: suf ∧ (∀ p ∈ pre, lessT p x = true) ∧ (∀ z ∈ suf, lessT x z = true) ∧ Srt (pre ++ x :: suf) := by
  obtain ⟨pre, suf, rfl, h2, h3, h4⟩ := srt_ins h (kid_none.1 hk)
  refine ⟨pre, suf, rfl, ?_, h2, h3, h4⟩
  rw [setL, hk, if_neg (by simp), ins_at h2 h3]
theorem setL_old {l : List T} {x k : T} (hk : kid l (stepT x) = some k) : ∃ pre suf, l = pre ++ k :: suf ∧ setL l x = pre ++ x :: suf ∧ stepT k = stepT x ∧ ∀ p ∈ pre, stepT p ≠ stepT x := by
  obtain ⟨pre, suf, rfl, h2, h3⟩ := kid_some hk
  refine ⟨pre, suf, rfl, ?_, h2, h3⟩
  rw [setL, hk, if_pos (by simp), rep_at h3 h2]
def getT : T → List Step → Option T
  | t, [] => some t
  | t, s :: r => (kid t.kids s).bind fun k => getT k r
theorem getT_cons (t : T) (s : Step) (r : List Step) : getT t (s :: r) = (kid t.kids s).bind fun k => getT k r := rfl
theorem getT_one (t : T) (s : Step) : getT t [s] = kid t.kids s := by rw [getT_cons]; cases kid t.kids s <;> rfl
theorem getT_append : ∀ (l m : List Step) (t : T), getT t (l ++ m) = (getT t l).bind fun u => getT u m
  | [], m, t => rfl
  | s :: l, m, t => by
    rw [List.cons_append, getT_cons, getT_cons]
    cases kid t.kids s with
    | none => rfl
    | some k => exact getT_append l m k
def setT : T → List Step → T → T
  | t, [], _ => t
  | t, [_], x => t.wk (setL t.kids x)
  | t, s :: q :: r, x => match kid t.kids s with | none => t | some k => t.wk (repL t.kids s (setT k (q :: r) x))
def cutT : T → List Step → T
  | t, [] => t
  | t, [s] => t.wk (cutL t.kids s)
  | t, s :: q :: r => match kid t.kids s with | none => t | some k => t.wk (repL t.kids s (cutT k (q :: r)))
def setR (n : T) (way : List Step) (x : T) : T × Int :=
  if way.getLast? = some (stepT x) then
    match getT n way.dropLast with
    | none => (zeroT, 30)
    | some p => if p.kind ≠ 0 then (zeroT, 30) else (setT n way x, 0)
  else (zeroT, 1)
def cutR (n : T) (way : List Step) : T × Int :=
  if way = [] then (zeroT, 30) else match getT n way with | none => (zeroT, 30) | some _ => (cutT n way, 0)
theorem setR_cons (n : T) (s q : Step) (r : List Step) (x : T) : setR n (s :: q :: r) x = if (q :: r).getLast? = some (stepT x) then (match kid n.kids s with | none => (zeroT, 30) | some k => if (setR k (q :: r) x).2 = 0 then (n.wk (repL n.kids s (setR k (q :: r) x).1), 0) else setR k (q :: r) x) else (zeroT, 1) := by
  unfold setR
  rw [List.getLast?_cons_cons, List.dropLast_cons_cons, getT_cons]
  by_cases h : (q :: r).getLast? = some (stepT x)
  · simp only [if_pos h]
    rw [setT]
    cases hk : kid n.kids s with
    | none => rfl
    | some k =>
      simp only [Option.bind_some]
      cases hg : getT k (q :: r).dropLast with
      | none => simp
      | some p =>
        by_cases hp : p.kind ≠ 0
        · simp [hp]
        · simp [hp]
  · simp only [if_neg h]
theorem cutR_cons (n : T) (s q : Step) (r : List Step) : cutR n (s :: q :: r) = match kid n.kids s with | none => (zeroT, 30) | some k => if (cutR k (q :: r)).2 = 0 then (n.wk (repL n.kids s (cutR k (q :: r)).1), 0) else cutR k (q :: r) := by
  unfold cutR
  simp only [reduceCtorEq, ↓reduceIte]
  rw [getT_cons, cutT]
  cases hk : kid n.kids s with
  | none => rfl
  | some k =>
    simp only [Option.bind_some]
    cases hg : getT k (q :: r) with
    | none => simp
    | some p => simp
theorem setR_one (n : T) (s : Step) (x : T) : setR n [s] x = if s = stepT x then (if n.kind ≠ 0 then (zeroT, 30) else (n.wk (setL n.kids x), 0)) else (zeroT, 1) := by
  unfold setR
  by_cases h : s = stepT x
  · simp [h, getT, setT]
  · simp [h]
theorem cutR_one (n : T) (s : Step) : cutR n [s] = match kid n.kids s with | none => (zeroT, 30) | some _ => (n.wk (cutL n.kids s), 0) := by
  unfold cutR
  rw [if_neg (by simp), getT_one]
  rfl
def oneT (n : T) (e : E) : T × Int :=
  if e.way = [] ∨ ¬ (e.kind = 1 ∨ e.kind = 2 ∨ e.kind = 3) ∨ (e.kind ≠ 2 ∧ e.way.getLast? ≠ some (stepT e.node)) ∨ (e.kind ≠ 1 ∧ e.way.getLast? ≠ some (stepT e.old)) then (zeroT, 1)
  else if e.kind = 1 then (if (getT n e.way).isSome = true then (zeroT, 24) else setR n e.way e.node)
  else match getT n e.way with
    | none => (zeroT, 30)
    | some y => if sameT y e.old = false then (zeroT, 23) else if e.kind = 2 then cutR n e.way else if e.node.kind = 0 ∨ e.old.kind = 0 then (zeroT, 23) else setR n e.way e.node
def applyT : T → List E → Nat → T × Int × Nat
  | n, [], _ => (n, 0, 0)
  | n, e :: es, i => if (oneT n e).2 = 0 then applyT (oneT n e).1 es (i + 1) else (zeroT, (oneT n e).2, i)
theorem oneT_cons (n : T) (d : Int) (s q : Step) (r : List Step) (x y : T) {k : T} (hk : kid n.kids s = some k) : oneT n ⟨d, s :: q :: r, x, y⟩ = if (oneT k ⟨d, q :: r, x, y⟩).2 = 0 then (n.wk (repL n.kids s (oneT k ⟨d, q :: r, x, y⟩).1), 0) else oneT k ⟨d, q :: r, x, y⟩ := by
  unfold oneT
  simp only [List.getLast?_cons_cons]
  by_cases h : (q :: r = [] ∨ ¬ (d = 1 ∨ d = 2 ∨ d = 3) ∨ (d ≠ 2 ∧ (q :: r).getLast? ≠ some (stepT x)) ∨ (d ≠ 1 ∧ (q :: r).getLast? ≠ some (stepT y)))
  · have h' : (s :: q :: r = [] ∨ ¬ (d = 1 ∨ d = 2 ∨ d = 3) ∨ (d ≠ 2 ∧ (q :: r).getLast? ≠ some (stepT x)) ∨ (d ≠ 1 ∧ (q :: r).getLast? ≠ some (stepT y))) := by
      rcases h with h | h
      · cases h
      · exact .inr h
    rw [if_pos h, if_pos h']
    simp
  · have h' : ¬ (s :: q :: r = [] ∨ ¬ (d = 1 ∨ d = 2 ∨ d = 3) ∨ (d ≠ 2 ∧ (q :: r).getLast? ≠ some (stepT x)) ∨ (d ≠ 1 ∧ (q :: r).getLast? ≠ some (stepT y))) := by
      rintro (h2 | h2)
      · cases h2
      · exact h (.inr h2)
    rw [if_neg h, if_neg h']
    have hg : getT n (s :: q :: r) = getT k (q :: r) := by rw [getT_cons, hk]; rfl
    have hs : (q :: r).getLast? = some (stepT x) → setR n (s :: q :: r) x = if (setR k (q :: r) x).2 = 0 then (n.wk (repL n.kids s (setR k (q :: r) x).1), 0) else setR k (q :: r) x := fun hl => by rw [setR_cons, if_pos hl, hk]
    have hc : cutR n (s :: q :: r) = if (cutR k (q :: r)).2 = 0 then (n.wk (repL n.kids s (cutR k (q :: r)).1), 0) else cutR k (q :: r) := by rw [cutR_cons, hk]
    have hl : d ≠ 2 → (q :: r).getLast? = some (stepT x) := fun hd => Classical.byContradiction fun hn => h (.inr (.inr (.inl ⟨hd, hn⟩)))
    rw [hg]
    by_cases h1 : d = 1
    · rw [if_pos h1, if_pos h1]
      by_cases h2 : (getT k (q :: r)).isSome = true
      · simp [h2]
      · simp only [if_neg h2]
        exact hs (hl (by omega))
    · rw [if_neg h1, if_neg h1]
      cases hgk : getT k (q :: r) with
      | none => simp
      | some u =>
        simp only
        by_cases h2 : sameT u y = false
        · simp [h2]
        · simp only [if_neg h2]
          by_cases h3 : d = 2
          · simp only [if_pos h3]; exact hc
          · simp only [if_neg h3]
            by_cases h4 : x.kind = 0 ∨ y.kind = 0
            · simp [h4]
            · simp only [if_neg h4]; exact hs (hl h3)
end Go.Proofs.Ytgkgedjmnbjalaa

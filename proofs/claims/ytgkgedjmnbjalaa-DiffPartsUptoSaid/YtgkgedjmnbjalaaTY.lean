/- slices.Backward over a row of edits: an iterator that reads memory between two rounds.
   Conditions: none. -/
import Derived.RangeFuncNested
import Derived.RangeFuncBound
import Derived.RangeFuncCalls
import Derived.RangeFuncLeaves
import Derived.Shelf.Abstract
import Derived.Shelf.RegionOpen
import Derived.WalkKit
import Derived.OwnWalkIn
import Derived.TacticsInMore
import Derived.LoopNIn
import Derived.LoopIn
import Derived.Test.YtgkgedjmnbjalaaTV
set_option linter.unusedSimpArgs false
namespace Go.Proofs.Ytgkgedjmnbjalaa
open Go.RowKit Go.Sort Go.Shelf

attribute [local go_sem] Oper.semAt_some

/-- An edit of the row, and its cells. -/
def EdAt (w0 : World) (es : List E) : Type := { x : Nat × E × List Value // es[x.1]? = some x.2.1 ∧ RE (· < w0.heap.size) w0 x.2.1 x.2.2 }
def EdAt.enc {w0 : World} {es : List E} (x : EdAt w0 es) : Array Value := #[.int .i64 (x.1.1 : Int), .agg x.1.2.2.toArray]
/-- What a round keeps: all that lay ahead, and the box of the row. -/
def Kb (B Bs : Nat) (W W' : World) : Prop := Below B W W' ∧ ∀ cs t, Blk W Bs cs t → Blk W' Bs cs t
theorem Kb.trans {B Bs : Nat} {X Y Z : World} (h : Kb B Bs X Y) (k : Kb B Bs Y Z) : Kb B Bs X Z := ⟨h.1.trans k.1, fun cs t hb => k.2 cs t (h.2 cs t hb)⟩

set_option maxRecDepth 100000 in
set_option maxHeartbeats 4000000 in
theorem back1_in (F : Fence) (n : Nat) (h142 : F.fn 142) (hro : F.round = none) (hn : 1 ≤ n) (l Bs : Nat) (w0 : World) (A : Option Addr) (c : Nat) (es : List E) (hrow : ERow (· < w0.heap.size) w0 A es c) (J Jx : List (EdAt w0 es) → World → Prop)
    (hY : ∀ pre x W, J pre W → pre.length < es.length → YieldAt F (n - 1) Try.prog l x.enc W fun e W' =>
      (e = .returned (.bool true) ∧ J (pre ++ [x]) W' ∧ Kb w0.heap.size Bs W W') ∨ (e = .returned (.bool false) ∧ Jx (pre ++ [x]) W'))
    (W : World) (hx : Ext w0 W) (hBs : Blk W Bs [.slice A es.length c] 57) (h0 : J [] W) :
    CallsIn F n Try.prog 142 #[.func (.yield l) #[] #[], .pointer (some ⟨Bs, 0, none⟩)] W fun e W' => (∃ v, e = .returned v) ∧
      ((∃ ys : List (EdAt w0 es), ys.map (·.1.2.1) = es.reverse ∧ J ys W') ∨ (∃ pre : List (EdAt w0 es), True ∧ Jx pre W')) := by
  have hlen := hrow.len
  have kr := Hd.mk hrow
  have kx := Hd.mk hx
  have kY := Hd.mk hY
  have kB := Hd.mk hBs
  have gB := hBs.cell 0
  simp only [List.getElem?_cons_zero] at gB
  have k0 := Hd.mk h0
  clear hrow hx hY hBs h0
  refine callsIn_of_wp Try.func142 rfl h142 ?_ hro
  simp only [Try.ntmps142, List.size_toArray, List.length_cons, List.length_nil, Nat.reduceAdd, Nat.reduceSub, Array.replicate_succ, Array.replicate_zero, List.push_toArray, List.append_toArray, List.nil_append, List.cons_append]
  gi_wp2
  clear gB
  gi_loopw [3] (fun i wr => ∃ (k : Nat) (ys : List (EdAt w0 es)), k ≤ es.length ∧ i = .int .i64 ((k : Int) - 1) ∧ Hd (ys.length + k = es.length ∧ ys.map (·.1.2.1) = (es.drop k).reverse ∧ J ys wr ∧ Ext w0 wr ∧ Blk wr Bs [.slice A es.length c] 57))
    (fun i _ => (intOf i + 1).toNat)
  case atStart => exact ⟨es.length, [], Nat.le_refl _, by go_num, ⟨by simp, by simp, k0.out, kx.out, kB.out⟩⟩
  case round =>
    obtain ⟨k, ys, hk, rfl, hI⟩ := hrel
    cases k with
    | zero =>
      obtain ⟨hl, hm, hJ, _, _⟩ := hI.out
      gi_wp2
      go_end0
      exact ⟨⟨_, rfl⟩, .inl ⟨ys, by simpa using hm, hJ⟩⟩
    | succ m =>
      have hm1 : ((m + 1 : Nat) : Int) - 1 = (m : Int) := by omega
      rw [hm1]
      have hlt : m < es.length := hk
      have hxe := List.getElem?_eq_getElem hlt
      have hdrop : es.drop m = es[m] :: es.drop (m + 1) := List.drop_eq_getElem_cons hlt
      generalize es[m] = x at hxe hdrop
      obtain ⟨b1, o1, ck, rfl, hS, hrk, hck⟩ := kr.out.edit m x hxe
      obtain ⟨fn, tmps, assign, body, hy, hR⟩ := kY.out ys ⟨(m, x, ck), hxe, hrk⟩ wr hI.out.2.2.1 (by have := hI.out.1; omega)
      have hR := Hd.mk hR
      have hrk2 := hrk
      obtain ⟨A1, a1, K3, k3, L3, l3, rfl, _⟩ := hrk2
      obtain ⟨e0, e1, e2, e3, e4, e5, e6, e7, e8, e9, e10, e11, e12, e13⟩ := c14C hI.out.2.2.2.1 hck
      have lt1 := World.block_lt_of_cell? wr _ e0
      have gB := (hI.out.2.2.2.2).cell 0
      simp only [List.getElem?_cons_zero] at gB
      simp only [EdAt.enc, cT, List.cons_append, List.nil_append] at hy
      have hrk := Hd.mk hrk
      have hxe' := Hd.mk hxe
      have hdrop := Hd.mk hdrop
      clear hck hS
      gi_wp2
      clear e0 e1 e2 e3 e4 e5 e6 e7 e8 e9 e10 e11 e12 e13 gB
      refine hR.out.mono ?_
      rintro e W3 (⟨rfl, hJ3, hk3⟩ | ⟨rfl, hJx3⟩)
      · have hJ3 := Hd.mk hJ3
        have hk3 := Hd.mk hk3
        clear hy
        gi_wp2
        go_roundw
        case rel => exact ⟨m, _, by omega, by go_num, ⟨by have := hI.out.1; rw [List.length_append]; show ys.length + (0 + 1) + m = es.length; omega, by have := hI.out.2.1; rw [List.map_append, this, hdrop.out, List.reverse_cons]; rfl, hJ3.out, Below.trans (hI.out.2.2.2.1) hk3.out.1, hk3.out.2 _ _ hI.out.2.2.2.2⟩⟩
        case measure => simp [intOf]
      · have hJx3 := Hd.mk hJx3
        clear hy
        gi_wp2
        refine bodyPost_ret (results_none rfl _ _ _) rfl ?_
        exact ⟨⟨_, rfl⟩, .inr ⟨_, trivial, hJx3.out⟩⟩

set_option maxHeartbeats 1000000 in
theorem back_in (F : Fence) (n : Nat) (h102 : F.fn 102) (hro : F.round = none) (A : Option Addr) (len cap : Nat) (w : World) :
    CallsIn F n Try.prog 102 #[.slice A len cap] w fun e w' => e = .returned (.func (.func 142) #[] #[.pointer (some ⟨w.heap.size, 0, none⟩)]) ∧ w' = w.alloc (.cells #[.slice A len cap] 57) := by
  refine callsIn_of_wp Try.func102 rfl h102 ?_ hro
  simp only [Try.ntmps102, List.size_toArray, List.length_cons, List.length_nil, Nat.reduceAdd, Nat.reduceSub, Array.replicate_succ, Array.replicate_zero, List.push_toArray, List.append_toArray, List.nil_append, List.cons_append]
  gi_wp2
  go_ret
  exact ⟨rfl, rfl⟩

theorem back_stops (F : Fence) (n : Nat) (h142 : F.fn 142) (hro : F.round = none) (hn : 1 ≤ n) (Bs : Nat) (w0 w : World) (A : Option Addr) (c : Nat) (es : List E) (hrow : ERow (· < w0.heap.size) w0 A es c) (hx : Ext w0 w) (hBs : Blk w Bs [.slice A es.length c] 57) :
    SeqStopsK F n Try.prog 142 #[.pointer (some ⟨Bs, 0, none⟩)] (EdAt.enc (w0 := w0) (es := es)) (Kb w0.heap.size Bs) (fun ys => ys.map (·.1.2.1) = es.reverse) (fun _ => True) es.length w := fun l J Jx W hW _ _ hY h0 =>
  back1_in F n h142 hro hn l Bs w0 A c es hrow J Jx hY W (hx.trans hW) (hBs.ext hW) h0
end Go.Proofs.Ytgkgedjmnbjalaa

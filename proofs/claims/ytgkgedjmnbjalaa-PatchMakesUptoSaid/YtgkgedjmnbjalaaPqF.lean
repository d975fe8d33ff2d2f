/- Texts that the law needs, joined.
   Conditions: none. -/
import Derived.Test.YtgkgedjmnbjalaaPqD
import Derived.Test.YtgkgedjmnbjalaaPqE
import Derived.RangeFuncNested
import Derived.RangeFuncBound
import Derived.RangeFuncCalls
import Derived.RangeFuncLeaves
import Derived.Shelf.Abstract
import Derived.Shelf.RegionOpen
import Derived.WalkKit
import Derived.OwnWalkIn
import Derived.TacticsInMore
import Derived.LoopNIn
import Derived.LoopIn
import Derived.OrdersIn
import Derived.Tactics
import Derived.TacticsIn
import Derived.Test.YtgkgedjmnbjalaaPqA
import Derived.Laws.Cover1
import Derived.Test.YtgkgedjmnbjalaaPqC
set_option linter.unusedSimpArgs false
set_option linter.unusedVariables false
namespace Go.Proofs.Ytgkgedjmnbjalaa
open Go.RowKit Go.Sort
theorem c14C {w w' : World} (hx : Ext w w') {b o : Nat} {x0 x1 x2 x3 x4 x5 x6 x7 x8 x9 x10 x11 x12 x13 : Value} (h : ∀ (j : Nat) v, [x0, x1, x2, x3, x4, x5, x6, x7, x8, x9, x10, x11, x12, x13][j]? = some v → w.cell? ⟨b, o + j, none⟩ = some v) :
    w'.cell? ⟨b, o, none⟩ = some x0 ∧ w'.cell? ⟨b, o + 1, none⟩ = some x1 ∧ w'.cell? ⟨b, o + 2, none⟩ = some x2 ∧ w'.cell? ⟨b, o + 3, none⟩ = some x3 ∧ w'.cell? ⟨b, o + 4, none⟩ = some x4 ∧ w'.cell? ⟨b, o + 5, none⟩ = some x5 ∧ w'.cell? ⟨b, o + 6, none⟩ = some x6 ∧
      w'.cell? ⟨b, o + 7, none⟩ = some x7 ∧ w'.cell? ⟨b, o + 8, none⟩ = some x8 ∧ w'.cell? ⟨b, o + 9, none⟩ = some x9 ∧ w'.cell? ⟨b, o + 10, none⟩ = some x10 ∧ w'.cell? ⟨b, o + 11, none⟩ = some x11 ∧ w'.cell? ⟨b, o + 12, none⟩ = some x12 ∧ w'.cell? ⟨b, o + 13, none⟩ = some x13 :=
  ⟨Ext.cell hx (h 0 _ rfl), Ext.cell hx (h 1 _ rfl), Ext.cell hx (h 2 _ rfl), Ext.cell hx (h 3 _ rfl), Ext.cell hx (h 4 _ rfl), Ext.cell hx (h 5 _ rfl), Ext.cell hx (h 6 _ rfl), Ext.cell hx (h 7 _ rfl), Ext.cell hx (h 8 _ rfl), Ext.cell hx (h 9 _ rfl), Ext.cell hx (h 10 _ rfl), Ext.cell hx (h 11 _ rfl), Ext.cell hx (h 12 _ rfl), Ext.cell hx (h 13 _ rfl)⟩
end Go.Proofs.Ytgkgedjmnbjalaa
set_option linter.unusedSimpArgs false
namespace Go.Proofs.Ytgkgedjmnbjalaa
open Go.RowKit Go.Sort
set_option maxRecDepth 100000 in
set_option maxHeartbeats 4000000 in
theorem ref_edits {N : Nat} {S : Nat → Prop} {w : World} {a b : T} {ca cb : List Value} (hd : a.deep ≤ N) (ha : RT S w a ca) (hb : RT S w b cb) (hdb : a.deep ≤ 1000000) (hes : a.size + b.size ≤ 1000000) :
    Calls Try.prog 41 #[.agg ca.toArray, .agg cb.toArray] w (Ret (EdPost (edits N a b []) w)) := by
  obtain ⟨K1, c1, rfl, _⟩ := ha.row
  obtain ⟨K2, c2, rfl, _⟩ := hb.row
  have hcall := Hd.mk (fun W (h : Ext w W) => ref_edits_at N S W [] none 0 a b _ _ hd (WRow.nil _ _ _ _ (fun _ => rfl)) (ha.ext h) (hb.ext h) (by simpa using hdb) hes)
  have hlen := Hd.mk (Nat.le_trans (edits_len N a b []) (Nat.le_trans hes (by decide : 1000000 ≤ 1048576)))
  clear ha hb
  simp only [cT, List.length_nil] at hcall ⊢
  go_enter Try.func41, Try.ntmps41
  go_wp2_with fail
  have kx := Hd.mk ((Ext.alloc w (.cells #[.string a.name, .string a.key, .int .i64 a.kind, .int .u64 a.num, .string a.text, .slice K1 a.kids.length c1] 54)).trans (Ext.alloc _ (.cells #[.string b.name, .string b.key, .int .i64 b.kind, .int .u64 b.num, .string b.text, .slice K2 b.kids.length c2] 54)))
  refine Calls.mono (hcall.out _ kx.out) ?_
  rintro e w1 ⟨v1, rfl, css, ho, hx⟩
  obtain ⟨A, c, rfl, hrow⟩ := ho.row hlen.out
  have hrow := Hd.mk hrow
  have hx := Hd.mk (kx.out.trans hx)
  clear ho hcall
  go_wp2_with fail
  go_ret
  exact ⟨_, rfl, A, c, rfl, hrow.out, hx.out⟩
def spE (es : List E) : SP := ⟨fun v w => ∃ A c, v = .slice A es.length c ∧ ERow (fun _ => True) w A es c, fun _ _ _ h ⟨A, c, e, hr⟩ => ⟨A, c, e, hr.ext h⟩⟩
end Go.Proofs.Ytgkgedjmnbjalaa
set_option linter.unusedSimpArgs false
namespace Go.Proofs.Ytgkgedjmnbjalaa
open Go.RowKit Go.Sort Go.Shelf
attribute [local go_sem] Oper.semAt_some
def inv1 (e : E) : List E := if e.kind = 1 then [⟨2, e.way, zeroT, e.node⟩] else if e.kind = 2 then [⟨1, e.way, e.old, zeroT⟩] else if e.kind = 3 then [⟨3, e.way, e.old, e.node⟩] else []
def inverse (es : List E) : List E := es.reverse.flatMap inv1
theorem inv1_len (e : E) : (inv1 e).length ≤ 1 := by unfold inv1; split; · simp
                                                     · split; · simp
                                                       · split <;> simp
theorem inverse_len' : ∀ l : List E, (l.flatMap inv1).length ≤ l.length
  | [] => by simp
  | e :: l => by have := inverse_len' l; have := inv1_len e; simp only [List.flatMap_cons, List.length_append, List.length_cons]; omega
theorem inverse_len (es : List E) : (inverse es).length ≤ es.length := by have := inverse_len' es.reverse; simpa [inverse] using this
section
variable {F : Fence} {n : Nat} {P : Program} {ops : Array Oper} {rest : List Oper} {a : Act} {w : World} {Q : Exit → Act → World → Prop}
end
end Go.Proofs.Ytgkgedjmnbjalaa
set_option linter.unusedSimpArgs false
namespace Go.Proofs.Ytgkgedjmnbjalaa
open Go.RowKit Go.Sort
theorem zero_rt (w : World) : RT (fun _ => True) w zeroT [.string ⟨#[]⟩, .string ⟨#[]⟩, .int .i64 0, .int .u64 0, .string ⟨#[]⟩, .slice none 0 0] :=
  RT.of_row (t := zeroT) (K := none) (kc := 0) (RRow.nil _ _ _ _ (fun _ => rfl))
end Go.Proofs.Ytgkgedjmnbjalaa
set_option linter.unusedSimpArgs false
namespace Go.Proofs.Ytgkgedjmnbjalaa
open Go.RowKit Go.Sort
theorem inverse_drop {es : List E} {m : Nat} {x : E} (h : es[m]? = some x) : inverse (es.drop m) = inverse (es.drop (m + 1)) ++ inv1 x := by
  obtain ⟨h1, h2⟩ := List.getElem?_eq_some_iff.1 h
  rw [List.drop_eq_getElem_cons h1, h2]
  simp [inverse, List.flatMap_append]
set_option maxRecDepth 100000 in
set_option maxHeartbeats 4000000 in
theorem ref_inverse (es : List E) (S : Nat → Prop) (w : World) (A : Option Addr) (c : Nat) (hr : ERow S w A es c) :
    Calls Try.prog 44 #[.slice A es.length c] w (Ret (EdPost (inverse es) w)) := by
  have kr := Hd.mk (hr.keep (S' := (· < w.heap.size)) (fun b off v hb hc => ⟨World.block_lt_of_cell? w _ hc, hc⟩))
  have hlen := hr.len
  clear hr
  go_enter Try.func44, Try.ntmps44
  go_wp2_with fail
  go_loopg [3, 4] (es.length + 1) (fun q s3 s4 wr => ∃ (k : Nat) (css : List (List Value)) (V : Option Addr) (vc : Nat), k ≤ es.length ∧ Hd (q = k + 1) ∧ s3 = .slice V (inverse (es.drop k)).length vc ∧ s4 = .int .i64 ((k : Int) - 1) ∧
    Hd (OutR w.heap.size (fun _ => True) wr (.slice V (inverse (es.drop k)).length vc) css (inverse (es.drop k))) ∧ Hd (Ext w wr))
  case atStart =>
    have h0 : inverse (es.drop es.length) = [] := by rw [List.drop_length]; rfl
    refine ⟨es.length, [], none, 0, Nat.le_refl _, ⟨rfl⟩, ?_, by go_num, ?_, ⟨Ext.refl _⟩⟩
    · rw [h0]; rfl
    · rw [h0]; exact ⟨OutR.nil _ _ _⟩
  case round =>
  obtain ⟨k, css, V, vc, hk, hq, rfl, rfl, hO, hxr⟩ := hrel
  have hdl := inverse_len (es.drop k)
  rw [List.length_drop] at hdl
  cases k with
  | zero =>
    rw [List.drop_zero] at hO hdl ⊢
    obtain ⟨A6, c6, e6, hrow⟩ := hO.out.row (Nat.le_trans (inverse_len es) hlen)
    cases e6
    replace hrow := Hd.mk hrow
    clear hO
    go_wp2_with fail
    go_ret
    exact ⟨_, rfl, V, vc, rfl, hrow.out, hxr.out⟩
  | succ m =>
    have hm1 : ((m + 1 : Nat) : Int) - 1 = (m : Int) := by omega
    rw [hm1]
    have hlt : m < es.length := hk
    have hx1 := List.getElem?_eq_getElem hlt
    generalize es[m] = x at hx1
    obtain ⟨b1, o1, ck, rfl, _, hrk, hck⟩ := kr.out.edit m x hx1
    have hid := inverse_drop hx1
    obtain ⟨kd, way, node, old⟩ := x
    obtain ⟨A1, a1, K3, k3, L3, l3, rfl, hw, hn, ho⟩ := hrk
    replace hw := Hd.mk hw
    replace hn := Hd.mk hn
    replace ho := Hd.mk ho
    replace hid := Hd.mk hid
    obtain ⟨e0, e1, e2, e3, e4, e5, e6, e7, e8, e9, e10, e11, e12, e13⟩ := c14C hxr.out hck
    have lt1 := World.block_lt_of_cell? wr _ e0
    clear hck hx1
    generalize inverse (es.drop (m + 1)) = dn at *
    by_cases k1 : kd = 1
    · subst k1
      go_wp2_with ((with_reducible refine stop_at (.call { callee := .builtin .append, args := #[.tmp 21, .tmp 27], argTypes := #[57, 57] }) ?_))
      refine Stop.mk ?_
      have hx2 := Hd.mk ((Ext.alloc wr (.cells #[.int .i64 1, .slice A1 way.length a1, .string node.name, .string node.key, .int .i64 node.kind, .int .u64 node.num, .string node.text, .slice K3 node.kids.length k3, .string old.name, .string old.key, .int .i64 old.kind, .int .u64 old.num, .string old.text, .slice L3 old.kids.length l3] 68)).trans (Ext.alloc _ (.cells #[.int .i64 2, .slice A1 way.length a1, .string ⟨#[]⟩, .string ⟨#[]⟩, .int .i64 0, .int .u64 0, .string ⟨#[]⟩, .slice none 0 0, .string node.name, .string node.key, .int .i64 node.kind, .int .u64 node.num, .string node.text, .slice K3 node.kids.length k3] 68)))
      have hD := Hd.mk (Blk.new2 wr (.cells #[.int .i64 1, .slice A1 way.length a1, .string node.name, .string node.key, .int .i64 node.kind, .int .u64 node.num, .string node.text, .slice K3 node.kids.length k3, .string old.name, .string old.key, .int .i64 old.kind, .int .u64 old.num, .string old.text, .slice L3 old.kids.length l3] 68) #[.int .i64 2, .slice A1 way.length a1, .string ⟨#[]⟩, .string ⟨#[]⟩, .int .i64 0, .int .u64 0, .string ⟨#[]⟩, .slice none 0 0, .string node.name, .string node.key, .int .i64 node.kind, .int .u64 node.num, .string node.text, .slice K3 node.kids.length k3] 68)
      have hO2 := Hd.mk (hO.out.ext hx2.out)
      have hxr2 := Hd.mk (hxr.out.trans hx2.out)
      have hre := Hd.mk (show RE (· < w.heap.size) w (⟨2, way, zeroT, node⟩ : E) [.int .i64 2, .slice A1 way.length a1, .string ⟨#[]⟩, .string ⟨#[]⟩, .int .i64 0, .int .u64 0, .string ⟨#[]⟩, .slice none 0 0, .string node.name, .string node.key, .int .i64 node.kind, .int .u64 node.num, .string node.text, .slice K3 node.kids.length k3] from ⟨A1, a1, _, _, _, _, rfl, hw.out, RRow.nil _ _ _ _ (fun _ => rfl), hn.out⟩)
      replace hid := Hd.mk (hid.out.trans (show dn ++ inv1 _ = dn ++ [(⟨2, way, zeroT, node⟩ : E)] from rfl))
      have hw2 := hxr2.out.size
      clear hO e0 e1 e2 e3 e4 e5 e6 e7 e8 e9 e10 e11 e12 e13 lt1 hw hn ho
      generalize wr.heap.size + 1 = BD at *
      generalize (wr.alloc _).alloc _ = W2 at *
      refine wpl_append' sl57 (by omega) (by omega) (.tmp 21) (.tmp 27) 28 _ _ _ w.heap.size (.slice V dn.length vc) dn.length css.flatten rfl hO2.out.own ⟨BD, 0, none⟩ 1 1 _ rfl (by rw [hre.out.len]) (fun i u hi => by rw [addr_add, Nat.zero_add, hD.out.cell]; exact hi) hre.out.one (by omega) hw2 ?_
      intro v' w' hown hgr hat
      obtain ⟨V', vc', rfl, _⟩ := own_slice hown
      have hp := Hd.mk (OutR.push (es2 := [(⟨2, way, zeroT, node⟩ : E)]) (css2 := [[.int .i64 2, .slice A1 way.length a1, .string ⟨#[]⟩, .string ⟨#[]⟩, .int .i64 0, .int .u64 0, .string ⟨#[]⟩, .slice none 0 0, .string node.name, .string node.key, .int .i64 node.kind, .int .u64 node.num, .string node.text, .slice K3 node.kids.length k3]]) hO2.out rfl (by simp) (fun i e c he hc => by
        cases i with
        | succ i => simp at he
        | zero =>
          simp only [List.getElem?_cons_zero, Option.some.injEq] at he hc
          subst he
          subst hc
          exact (hre.out.ext hxr2.out).mono (fun b _ hb => ⟨fun hh => by have := own_base hO2.out.own b hh; have hb2 : b < w.heap.size := hb; omega, trivial⟩)) (by simpa using hown) hgr hat)
      have hxr3 := Hd.mk (Below.grown hxr2.out hgr hw2 (fun k hk => own_base hO2.out.own k hk))
      clear hown hgr hat hO2
      go_wp2_with fail
      go_roundg (m + 1)
      case measure => have := hq.out; omega
      case rel => exact ⟨m, _, V', vc', by omega, ⟨rfl⟩, by rw [hid.out, List.length_append]; rfl, by go_num, ⟨by rw [hid.out, List.length_append]; exact hp.out⟩, hxr3⟩
    · by_cases k2 : kd = 2
      · subst k2
        go_wp2_with ((with_reducible refine stop_at (.call { callee := .builtin .append, args := #[.tmp 31, .tmp 37], argTypes := #[57, 57] }) ?_))
        refine Stop.mk ?_
        have hx2 := Hd.mk ((Ext.alloc wr (.cells #[.int .i64 2, .slice A1 way.length a1, .string node.name, .string node.key, .int .i64 node.kind, .int .u64 node.num, .string node.text, .slice K3 node.kids.length k3, .string old.name, .string old.key, .int .i64 old.kind, .int .u64 old.num, .string old.text, .slice L3 old.kids.length l3] 68)).trans (Ext.alloc _ (.cells #[.int .i64 1, .slice A1 way.length a1, .string old.name, .string old.key, .int .i64 old.kind, .int .u64 old.num, .string old.text, .slice L3 old.kids.length l3, .string ⟨#[]⟩, .string ⟨#[]⟩, .int .i64 0, .int .u64 0, .string ⟨#[]⟩, .slice none 0 0] 68)))
        have hD := Hd.mk (Blk.new2 wr (.cells #[.int .i64 2, .slice A1 way.length a1, .string node.name, .string node.key, .int .i64 node.kind, .int .u64 node.num, .string node.text, .slice K3 node.kids.length k3, .string old.name, .string old.key, .int .i64 old.kind, .int .u64 old.num, .string old.text, .slice L3 old.kids.length l3] 68) #[.int .i64 1, .slice A1 way.length a1, .string old.name, .string old.key, .int .i64 old.kind, .int .u64 old.num, .string old.text, .slice L3 old.kids.length l3, .string ⟨#[]⟩, .string ⟨#[]⟩, .int .i64 0, .int .u64 0, .string ⟨#[]⟩, .slice none 0 0] 68)
        have hO2 := Hd.mk (hO.out.ext hx2.out)
        have hxr2 := Hd.mk (hxr.out.trans hx2.out)
        have hre := Hd.mk (show RE (· < w.heap.size) w (⟨1, way, old, zeroT⟩ : E) [.int .i64 1, .slice A1 way.length a1, .string old.name, .string old.key, .int .i64 old.kind, .int .u64 old.num, .string old.text, .slice L3 old.kids.length l3, .string ⟨#[]⟩, .string ⟨#[]⟩, .int .i64 0, .int .u64 0, .string ⟨#[]⟩, .slice none 0 0] from ⟨A1, a1, _, _, _, _, rfl, hw.out, ho.out, RRow.nil _ _ _ _ (fun _ => rfl)⟩)
        replace hid := Hd.mk (hid.out.trans (show dn ++ inv1 _ = dn ++ [(⟨1, way, old, zeroT⟩ : E)] from rfl))
        have hw2 := hxr2.out.size
        clear hO e0 e1 e2 e3 e4 e5 e6 e7 e8 e9 e10 e11 e12 e13 lt1 hw hn ho
        generalize wr.heap.size + 1 = BD at *
        generalize (wr.alloc _).alloc _ = W2 at *
        refine wpl_append' sl57 (by omega) (by omega) (.tmp 31) (.tmp 37) 38 _ _ _ w.heap.size (.slice V dn.length vc) dn.length css.flatten rfl hO2.out.own ⟨BD, 0, none⟩ 1 1 _ rfl (by rw [hre.out.len]) (fun i u hi => by rw [addr_add, Nat.zero_add, hD.out.cell]; exact hi) hre.out.one (by omega) hw2 ?_
        intro v' w' hown hgr hat
        obtain ⟨V', vc', rfl, _⟩ := own_slice hown
        have hp := Hd.mk (OutR.push (es2 := [(⟨1, way, old, zeroT⟩ : E)]) (css2 := [[.int .i64 1, .slice A1 way.length a1, .string old.name, .string old.key, .int .i64 old.kind, .int .u64 old.num, .string old.text, .slice L3 old.kids.length l3, .string ⟨#[]⟩, .string ⟨#[]⟩, .int .i64 0, .int .u64 0, .string ⟨#[]⟩, .slice none 0 0]]) hO2.out rfl (by simp) (fun i e c he hc => by
          cases i with
          | succ i => simp at he
          | zero =>
            simp only [List.getElem?_cons_zero, Option.some.injEq] at he hc
            subst he
            subst hc
            exact (hre.out.ext hxr2.out).mono (fun b _ hb => ⟨fun hh => by have := own_base hO2.out.own b hh; have hb2 : b < w.heap.size := hb; omega, trivial⟩)) (by simpa using hown) hgr hat)
        have hxr3 := Hd.mk (Below.grown hxr2.out hgr hw2 (fun k hk => own_base hO2.out.own k hk))
        clear hown hgr hat hO2
        go_wp2_with fail
        go_roundg (m + 1)
        case measure => have := hq.out; omega
        case rel => exact ⟨m, _, V', vc', by omega, ⟨rfl⟩, by rw [hid.out, List.length_append]; rfl, by go_num, ⟨by rw [hid.out, List.length_append]; exact hp.out⟩, hxr3⟩
      · by_cases kk3 : kd = 3
        · subst kk3
          go_wp2_with ((with_reducible refine stop_at (.call { callee := .builtin .append, args := #[.tmp 41, .tmp 49], argTypes := #[57, 57] }) ?_))
          refine Stop.mk ?_
          have hx2 := Hd.mk ((Ext.alloc wr (.cells #[.int .i64 3, .slice A1 way.length a1, .string node.name, .string node.key, .int .i64 node.kind, .int .u64 node.num, .string node.text, .slice K3 node.kids.length k3, .string old.name, .string old.key, .int .i64 old.kind, .int .u64 old.num, .string old.text, .slice L3 old.kids.length l3] 68)).trans (Ext.alloc _ (.cells #[.int .i64 3, .slice A1 way.length a1, .string old.name, .string old.key, .int .i64 old.kind, .int .u64 old.num, .string old.text, .slice L3 old.kids.length l3, .string node.name, .string node.key, .int .i64 node.kind, .int .u64 node.num, .string node.text, .slice K3 node.kids.length k3] 68)))
          have hD := Hd.mk (Blk.new2 wr (.cells #[.int .i64 3, .slice A1 way.length a1, .string node.name, .string node.key, .int .i64 node.kind, .int .u64 node.num, .string node.text, .slice K3 node.kids.length k3, .string old.name, .string old.key, .int .i64 old.kind, .int .u64 old.num, .string old.text, .slice L3 old.kids.length l3] 68) #[.int .i64 3, .slice A1 way.length a1, .string old.name, .string old.key, .int .i64 old.kind, .int .u64 old.num, .string old.text, .slice L3 old.kids.length l3, .string node.name, .string node.key, .int .i64 node.kind, .int .u64 node.num, .string node.text, .slice K3 node.kids.length k3] 68)
          have hO2 := Hd.mk (hO.out.ext hx2.out)
          have hxr2 := Hd.mk (hxr.out.trans hx2.out)
          have hre := Hd.mk (show RE (· < w.heap.size) w (⟨3, way, old, node⟩ : E) [.int .i64 3, .slice A1 way.length a1, .string old.name, .string old.key, .int .i64 old.kind, .int .u64 old.num, .string old.text, .slice L3 old.kids.length l3, .string node.name, .string node.key, .int .i64 node.kind, .int .u64 node.num, .string node.text, .slice K3 node.kids.length k3] from ⟨A1, a1, _, _, _, _, rfl, hw.out, ho.out, hn.out⟩)
          replace hid := Hd.mk (hid.out.trans (show dn ++ inv1 _ = dn ++ [(⟨3, way, old, node⟩ : E)] from rfl))
          have hw2 := hxr2.out.size
          clear hO e0 e1 e2 e3 e4 e5 e6 e7 e8 e9 e10 e11 e12 e13 lt1 hw hn ho
          generalize wr.heap.size + 1 = BD at *
          generalize (wr.alloc _).alloc _ = W2 at *
          refine wpl_append' sl57 (by omega) (by omega) (.tmp 41) (.tmp 49) 50 _ _ _ w.heap.size (.slice V dn.length vc) dn.length css.flatten rfl hO2.out.own ⟨BD, 0, none⟩ 1 1 _ rfl (by rw [hre.out.len]) (fun i u hi => by rw [addr_add, Nat.zero_add, hD.out.cell]; exact hi) hre.out.one (by omega) hw2 ?_
          intro v' w' hown hgr hat
          obtain ⟨V', vc', rfl, _⟩ := own_slice hown
          have hp := Hd.mk (OutR.push (es2 := [(⟨3, way, old, node⟩ : E)]) (css2 := [[.int .i64 3, .slice A1 way.length a1, .string old.name, .string old.key, .int .i64 old.kind, .int .u64 old.num, .string old.text, .slice L3 old.kids.length l3, .string node.name, .string node.key, .int .i64 node.kind, .int .u64 node.num, .string node.text, .slice K3 node.kids.length k3]]) hO2.out rfl (by simp) (fun i e c he hc => by
            cases i with
            | succ i => simp at he
            | zero =>
              simp only [List.getElem?_cons_zero, Option.some.injEq] at he hc
              subst he
              subst hc
              exact (hre.out.ext hxr2.out).mono (fun b _ hb => ⟨fun hh => by have := own_base hO2.out.own b hh; have hb2 : b < w.heap.size := hb; omega, trivial⟩)) (by simpa using hown) hgr hat)
          have hxr3 := Hd.mk (Below.grown hxr2.out hgr hw2 (fun k hk => own_base hO2.out.own k hk))
          clear hown hgr hat hO2
          go_wp2_with fail
          go_roundg (m + 1)
          case measure => have := hq.out; omega
          case rel => exact ⟨m, _, V', vc', by omega, ⟨rfl⟩, by rw [hid.out, List.length_append]; rfl, by go_num, ⟨by rw [hid.out, List.length_append]; exact hp.out⟩, hxr3⟩
        · have hx2 := Hd.mk (Ext.alloc wr (.cells #[.int .i64 kd, .slice A1 way.length a1, .string node.name, .string node.key, .int .i64 node.kind, .int .u64 node.num, .string node.text, .slice K3 node.kids.length k3, .string old.name, .string old.key, .int .i64 old.kind, .int .u64 old.num, .string old.text, .slice L3 old.kids.length l3] 68))
          have hO2 := Hd.mk (hO.out.ext hx2.out)
          have hxr2 := Hd.mk (hxr.out.trans hx2.out)
          replace hid := Hd.mk (hid.out.trans (show dn ++ inv1 _ = dn by simp [inv1, k1, k2, kk3]))
          clear hO
          go_wp2_with fail
          go_roundg (m + 1)
          case measure => have := hq.out; omega
          case rel => exact ⟨m, css, V, vc, by omega, ⟨rfl⟩, by rw [hid.out], by go_num, ⟨by rw [hid.out]; exact hO2.out⟩, hxr2⟩
end Go.Proofs.Ytgkgedjmnbjalaa
set_option linter.unusedSimpArgs false
namespace Go.Proofs.Ytgkgedjmnbjalaa
open Go.RowKit Go.Sort
theorem by_asymm : ∀ x y : List UInt8, Op.bytesLess x y = true → Op.bytesLess y x = false
  | [], [], h => by simp [Op.bytesLess] at h
  | [], b :: y, _ => rfl
  | a :: x, [], h => by simp [Op.bytesLess] at h
  | a :: x, b :: y, h => by
    simp only [Op.bytesLess, Bool.or_eq_true, decide_eq_true_eq, Bool.and_eq_true, Bool.or_eq_false_iff, decide_eq_false_iff_not, Bool.and_eq_false_iff] at h ⊢
    rcases h with h | ⟨h1, h2⟩
    · refine ⟨UInt8.not_lt.2 (UInt8.le_of_lt h), .inl (by simp; intro e; subst e; exact absurd h (UInt8.lt_irrefl _))⟩
    · simp at h1
      subst h1
      exact ⟨UInt8.lt_irrefl _, .inr (by_asymm x y h2)⟩
theorem by_anti : ∀ x y : List UInt8, Op.bytesLess x y = false → Op.bytesLess y x = false → x = y
  | [], [], _, _ => rfl
  | [], b :: y, h, _ => by simp [Op.bytesLess] at h
  | a :: x, [], _, h => by simp [Op.bytesLess] at h
  | a :: x, b :: y, h, k => by
    simp only [Op.bytesLess, Bool.or_eq_false_iff, decide_eq_false_iff_not, Bool.and_eq_false_iff] at h k
    have hab : a = b := UInt8.le_antisymm (UInt8.not_lt.1 k.1) (UInt8.not_lt.1 h.1)
    subst hab
    have h2 : Op.bytesLess x y = false := by simpa using h.2
    have k2 : Op.bytesLess y x = false := by simpa using k.2
    rw [by_anti x y h2 k2]
theorem by_trans : ∀ x y z : List UInt8, Op.bytesLess x y = true → Op.bytesLess y z = true → Op.bytesLess x z = true
  | _, [], z, h, _ => by simp [Op.bytesLess] at h
  | x, b :: y, [], _, k => by simp [Op.bytesLess] at k
  | [], b :: y, c :: z, _, _ => rfl
  | a :: x, b :: y, c :: z, h, k => by
    simp only [Op.bytesLess, Bool.or_eq_true, decide_eq_true_eq, Bool.and_eq_true] at h k ⊢
    rcases h with h | ⟨h1, h2⟩
    · rcases k with k | ⟨k1, k2⟩
      · exact .inl (UInt8.lt_trans h k)
      · simp at k1; subst k1; exact .inl h
    · simp at h1
      subst h1
      rcases k with k | ⟨k1, k2⟩
      · exact .inl k
      · simp at k1; subst k1; exact .inr ⟨by simp, by_trans x y z h2 k2⟩
theorem ltB_asymm {a b : ByteArray} (h : ltB a b = true) : ltB b a = false := by_asymm _ _ h
theorem ltB_trans {a b c : ByteArray} (h : ltB a b = true) (k : ltB b c = true) : ltB a c = true := by_trans _ _ _ h k
theorem ltB_eq {a b : ByteArray} (h : ltB a b = false) (k : ltB b a = false) : a = b := of_decide_eq_true (by rw [← str_eq, by_anti _ _ h k]; exact beq_self_eq_true _)
theorem lessT_irr (x : T) : lessT x x = false := by simp [lessT, ltB_irr]
theorem lessT_asymm {x y : T} (h : lessT x y = true) : lessT y x = false := by
  simp only [lessT, Bool.or_eq_true, Bool.and_eq_true, decide_eq_true_eq, Bool.or_eq_false_iff, Bool.and_eq_false_iff, decide_eq_false_iff_not] at h ⊢
  rcases h with h | ⟨h1, h2⟩
  · exact ⟨ltB_asymm h, .inl (fun e => by rw [e, ltB_irr] at h; cases h)⟩
  · exact ⟨by rw [h1]; exact ltB_irr _, .inr (ltB_asymm h2)⟩
theorem lessT_trans {x y z : T} (h : lessT x y = true) (k : lessT y z = true) : lessT x z = true := by
  simp only [lessT, Bool.or_eq_true, Bool.and_eq_true, decide_eq_true_eq] at h k ⊢
  rcases h with h | ⟨h1, h2⟩
  · rcases k with k | ⟨k1, k2⟩
    · exact .inl (ltB_trans h k)
    · exact .inl (by rw [← k1]; exact h)
  · rcases k with k | ⟨k1, k2⟩
    · exact .inl (by rw [h1]; exact k)
    · exact .inr ⟨h1.trans k1, ltB_trans h2 k2⟩
theorem lessT_step {x y z : T} (h : stepT x = stepT y) : lessT x z = lessT y z ∧ lessT z x = lessT z y := by
  have h1 : x.name = y.name := congrArg Prod.fst h
  have h2 : x.key = y.key := congrArg Prod.snd h
  exact ⟨by unfold lessT; rw [h1, h2], by unfold lessT; rw [h1, h2]⟩
theorem step_of_less {x y : T} (h : lessT x y = false) (k : lessT y x = false) : stepT x = stepT y := by
  simp only [lessT, Bool.or_eq_false_iff, Bool.and_eq_false_iff, decide_eq_false_iff_not] at h k
  have hn := ltB_eq h.1 k.1
  have h2 : ltB x.key y.key = false := by
    rcases h.2 with h' | h'
    · exact absurd hn h'
    · exact h'
  have k2 : ltB y.key x.key = false := by
    rcases k.2 with h' | h'
    · exact absurd hn.symm h'
    · exact h'
  exact Prod.ext hn (ltB_eq h2 k2)
mutual
theorem sameT_rfl : ∀ t : T, sameT t t = true
  | .mk n k d m t l => by rw [sameT_mk]; simp [sameL_rfl l]
theorem sameL_rfl : ∀ l : List T, sameL l l = true
  | [] => rfl
  | x :: l => by rw [sameL, sameT_rfl x, sameL_rfl l]; rfl
end
mutual
theorem sameT_to : ∀ a b : T, sameT a b = true → a = b
  | .mk n k d m t l, .mk n' k' d' m' t' l', h => by
    rw [sameT_mk] at h
    simp only [Bool.and_eq_true, decide_eq_true_eq] at h
    obtain ⟨⟨⟨h1, h2⟩, ⟨h3, h4⟩, h5⟩, h6⟩ := h
    rw [h1, h2, h3, h4, h5, sameL_to l l' h6]
theorem sameL_to : ∀ l m : List T, sameL l m = true → l = m
  | [], [], _ => rfl
  | x :: l, y :: m, h => by
    rw [sameL, Bool.and_eq_true] at h
    rw [sameT_to x y h.1, sameL_to l m h.2]
  | [], y :: m, h => by simp [sameL] at h
  | x :: l, [], h => by simp [sameL] at h
end
theorem sameT_iff {a b : T} : sameT a b = true ↔ a = b := ⟨sameT_to a b, fun h => by rw [h]; exact sameT_rfl b⟩
theorem sameT_comm (a b : T) : sameT a b = sameT b a := by
  cases h : sameT a b with
  | true => rw [sameT_iff.1 h, sameT_rfl]
  | false =>
    cases k : sameT b a with
    | false => rfl
    | true => rw [sameT_iff.1 k, sameT_rfl] at h; cases h
theorem mergeE_self {one other : T → List E} {both : T → T → List E} (h : ∀ x, both x x = []) : ∀ (n : Nat) (xs : List T), mergeE one other both n xs xs = []
  | 0, _ => by simp [mergeE]
  | n + 1, [] => rfl
  | n + 1, x :: xs => by rw [mergeE_eq n xs xs (lessT_irr x) (lessT_irr x), h, mergeE_self h n xs]; rfl
theorem edits_self (N : Nat) (a : T) (way : List Step) : edits N a a way = [] := by
  cases N with
  | zero => rfl
  | succ N =>
    rw [edits]
    exact mergeE_self (fun x => by unfold bothE; rw [if_pos (sameT_rfl x)]) _ _
theorem right_kid {l : List T} : ∀ {p : Option T}, rightL p l = true → ∀ x ∈ l, rightT x = true := by
  induction l with
  | nil => intro p _ x hx; cases hx
  | cons y l ih =>
    intro p h x hx
    rw [rightL_cons, Bool.and_eq_true, Bool.and_eq_true] at h
    rcases List.mem_cons.1 hx with rfl | hx
    · exact h.1.1
    · exact ih h.2 x hx
theorem right_zero {x : T} (h : rightT x = true) (h0 : x.kind = 0) : x.num = 0 ∧ x.text = ⟨#[]⟩ ∧ rightL none x.kids = true := by
  obtain ⟨n, k, d, m, t, l⟩ := x
  have h0' : d = 0 := h0
  subst h0'
  rw [rightT, if_pos rfl, Bool.and_eq_true, Bool.and_eq_true] at h
  exact ⟨of_decide_eq_true h.1.1, of_decide_eq_true h.1.2, h.2⟩
theorem right_leaf {x : T} (h : rightT x = true) (h0 : x.kind ≠ 0) : x.kids = [] := by
  obtain ⟨n, k, d, m, t, l⟩ := x
  have h0' : ¬ d = 0 := h0
  rw [rightT, if_neg h0'] at h
  exact List.isEmpty_iff.1 h
theorem T.ext' {x y : T} (h1 : stepT x = stepT y) (h2 : x.kind = y.kind) (h3 : x.num = y.num) (h4 : x.text = y.text) (h5 : x.kids = y.kids) : x = y := by
  obtain ⟨n, k, d, m, t, l⟩ := x
  obtain ⟨n', k', d', m', t', l'⟩ := y
  have e1 : n = n' := congrArg Prod.fst h1
  have e2 : k = k' := congrArg Prod.snd h1
  have e3 : d = d' := h2
  have e4 : m = m' := h3
  have e5 : t = t' := h4
  have e6 : l = l' := h5
  rw [e1, e2, e3, e4, e5, e6]
theorem mergeE_nil {one other : T → List E} {both : T → T → List E} (h1 : ∀ x, one x ≠ []) (h2 : ∀ y, other y ≠ []) : ∀ (n : Nat) (xs ys : List T), xs.length + ys.length ≤ n →
    (∀ x ∈ xs, ∀ y ∈ ys, stepT x = stepT y → (both x y = [] ↔ x = y)) → (mergeE one other both n xs ys = [] ↔ xs = ys)
  | 0, [], [], _, _ => by simp [mergeE]
  | 0, x :: xs, _, h, _ => by simp at h
  | 0, [], y :: ys, h, _ => by simp at h
  | n + 1, [], [], _, _ => by simp [mergeE]
  | n + 1, x :: xs, [], _, _ => by rw [mergeE_x]; simp [h1]
  | n + 1, [], y :: ys, _, _ => by rw [mergeE_y]; simp [h2]
  | n + 1, x :: xs, y :: ys, h, h3 => by
    cases hl : lessT x y with
    | true =>
      rw [mergeE_lt n xs ys hl]
      simp only [List.append_eq_nil_iff, h1, false_and, false_iff]
      intro e
      injection e with e1 _
      rw [e1, lessT_irr] at hl
      cases hl
    | false =>
      cases hg : lessT y x with
      | true =>
        rw [mergeE_gt n xs ys hl hg]
        simp only [List.append_eq_nil_iff, h2, false_and, false_iff]
        intro e
        injection e with e1 _
        rw [e1, lessT_irr] at hg
        cases hg
      | false =>
        rw [mergeE_eq n xs ys hl hg, List.append_eq_nil_iff, h3 x (by simp) y (by simp) (step_of_less hl hg),
          mergeE_nil h1 h2 n xs ys (by simp at h; omega) (fun x' hx y' hy => h3 x' (by simp [hx]) y' (by simp [hy]))]
        simp
theorem kid_le_deep {l : List T} {x : T} (h : x ∈ l) : x.deep ≤ deepL l := by
  obtain ⟨i, hi⟩ := List.getElem?_of_mem h
  exact deepL_mem hi
theorem edits_nil : ∀ (N : Nat) (a b : T) (way : List Step), a.deep ≤ N → (∀ x ∈ a.kids, rightT x = true) → (∀ y ∈ b.kids, rightT y = true) → (edits N a b way = [] ↔ a.kids = b.kids)
  | 0, a, _, _, h, _, _ => by rw [a.deep_eq] at h; omega
  | N + 1, a, b, way, hd, ha, hb => by
    rw [edits]
    refine mergeE_nil (fun x => by simp [cutE]) (fun y => by simp [setE]) _ _ _ (Nat.le_refl _) (fun x hx y hy hs => ?_)
    unfold bothE
    by_cases h1 : sameT x y = true
    · rw [if_pos h1]
      simp [sameT_iff.1 h1]
    · have hne : x ≠ y := fun e => h1 (sameT_iff.2 e)
      rw [if_neg h1]
      by_cases h2 : x.kind ≠ 0 ∧ y.kind ≠ 0
      · rw [if_pos h2]; simp [hne]
      · rw [if_neg h2]
        by_cases h3 : x.kind ≠ 0 ∨ y.kind ≠ 0
        · rw [if_pos h3]; simp [hne, cutE]
        · rw [if_neg h3]
          have hx0 : x.kind = 0 := by
            by_cases h : x.kind = 0
            · exact h
            · exact absurd (Or.inl h) h3
          have hy0 : y.kind = 0 := by
            by_cases h : y.kind = 0
            · exact h
            · exact absurd (Or.inr h) h3
          obtain ⟨p1, p2, p3⟩ := right_zero (ha x hx) hx0
          obtain ⟨q1, q2, q3⟩ := right_zero (hb y hy) hy0
          rw [edits_nil N x y _ (by have := kid_le_deep hx; rw [a.deep_eq] at hd; omega) (right_kid p3) (right_kid q3)]
          refine ⟨fun h => absurd (T.ext' hs (hx0.trans hy0.symm) (p1.trans q1.symm) (p2.trans q2.symm) h) hne, fun h => absurd h hne⟩
def Fit (e : E) : Prop := (e.kind = 1 ∧ e.old = zeroT) ∨ (e.kind = 2 ∧ e.node = zeroT) ∨ e.kind = 3
theorem mergeE_all {one other : T → List E} {both : T → T → List E} {P : E → Prop} : ∀ (n : Nat) (xs ys : List T), (∀ x ∈ xs, ∀ e ∈ one x, P e) → (∀ y ∈ ys, ∀ e ∈ other y, P e) → (∀ x ∈ xs, ∀ y ∈ ys, stepT x = stepT y → ∀ e ∈ both x y, P e) → ∀ e ∈ mergeE one other both n xs ys, P e
  | 0, _, _, _, _, _ => by simp [mergeE]
  | n + 1, [], [], _, _, _ => by simp [mergeE]
  | n + 1, x :: xs, [], h1, h2, h3 => by
    intro e he
    rw [mergeE_x, List.mem_append] at he
    rcases he with he | he
    · exact h1 x (by simp) e he
    · exact mergeE_all n xs [] (fun x' hx => h1 x' (by simp [hx])) h2 (fun x' hx => h3 x' (by simp [hx])) e he
  | n + 1, [], y :: ys, h1, h2, h3 => by
    intro e he
    rw [mergeE_y, List.mem_append] at he
    rcases he with he | he
    · exact h2 y (by simp) e he
    · exact mergeE_all n [] ys h1 (fun y' hy => h2 y' (by simp [hy])) (fun x' hx y' hy => h3 x' hx y' (by simp [hy])) e he
  | n + 1, x :: xs, y :: ys, h1, h2, h3 => by
    intro e he
    cases hl : lessT x y with
    | true =>
      rw [mergeE_lt n xs ys hl, List.mem_append] at he
      rcases he with he | he
      · exact h1 x (by simp) e he
      · exact mergeE_all n xs (y :: ys) (fun x' hx => h1 x' (by simp [hx])) h2 (fun x' hx => h3 x' (by simp [hx])) e he
    | false =>
      cases hg : lessT y x with
      | true =>
        rw [mergeE_gt n xs ys hl hg, List.mem_append] at he
        rcases he with he | he
        · exact h2 y (by simp) e he
        · exact mergeE_all n (x :: xs) ys h1 (fun y' hy => h2 y' (by simp [hy])) (fun x' hx y' hy => h3 x' hx y' (by simp [hy])) e he
      | false =>
        rw [mergeE_eq n xs ys hl hg, List.mem_append] at he
        rcases he with he | he
        · exact h3 x (by simp) y (by simp) (step_of_less hl hg) e he
        · exact mergeE_all n xs ys (fun x' hx => h1 x' (by simp [hx])) (fun y' hy => h2 y' (by simp [hy])) (fun x' hx y' hy => h3 x' (by simp [hx]) y' (by simp [hy])) e he
theorem edits_fit : ∀ (N : Nat) (a b : T) (way : List Step), ∀ e ∈ edits N a b way, Fit e
  | 0, _, _, _ => by simp [edits]
  | N + 1, a, b, way => by
    rw [edits]
    refine mergeE_all _ _ _ (fun x _ e he => ?_) (fun y _ e he => ?_) (fun x _ y _ _ e he => ?_)
    · simp [cutE] at he; subst he; exact .inr (.inl ⟨rfl, rfl⟩)
    · simp [setE] at he; subst he; exact .inl ⟨rfl, rfl⟩
    · unfold bothE at he
      split at he
      · cases he
      · split at he
        · simp at he; subst he; exact .inr (.inr rfl)
        · split at he
          · simp [cutE, setE] at he
            rcases he with rfl | rfl
            · exact .inr (.inl ⟨rfl, rfl⟩)
            · exact .inl ⟨rfl, rfl⟩
          · exact edits_fit N x y _ e he
theorem inverse_append (l m : List E) : inverse (l ++ m) = inverse m ++ inverse l := by simp [inverse, List.flatMap_append]
theorem inverse_one (e : E) : inverse [e] = inv1 e := by simp [inverse]
end Go.Proofs.Ytgkgedjmnbjalaa
set_option linter.unusedSimpArgs false
namespace Go.Proofs.Ytgkgedjmnbjalaa
open Go.RowKit Go.Sort
def findAt : List T → Step → Nat → Int
  | [], _, _ => -1
  | x :: l, s, j => if stepT x = s then (j : Int) else findAt l s (j + 1)
def findT (l : List T) (s : Step) : Int := findAt l s 0
theorem findAt_drop {l : List T} {j : Nat} {x : T} (h : l[j]? = some x) (s : Step) : findAt (l.drop j) s j = if stepT x = s then (j : Int) else findAt (l.drop (j + 1)) s (j + 1) := by
  obtain ⟨h1, h2⟩ := List.getElem?_eq_some_iff.1 h
  rw [List.drop_eq_getElem_cons h1, h2, findAt]
theorem findAt_spec : ∀ (l : List T) (s : Step) (j : Nat), (findAt l s j = -1 ∧ ∀ x ∈ l, stepT x ≠ s) ∨ ∃ i x, findAt l s j = ((j + i : Nat) : Int) ∧ l[i]? = some x ∧ stepT x = s ∧ ∀ k y, k < i → l[k]? = some y → stepT y ≠ s
  | [], s, j => .inl ⟨rfl, by simp⟩
  | x :: l, s, j => by
    by_cases h : stepT x = s
    · exact .inr ⟨0, x, by rw [findAt, if_pos h]; rfl, rfl, h, fun k y hk => absurd hk (by omega)⟩
    · rw [findAt, if_neg h]
      rcases findAt_spec l s (j + 1) with ⟨h1, h2⟩ | ⟨i, y, h1, h2, h3, h4⟩
      · exact .inl ⟨h1, fun y hy => by rcases List.mem_cons.1 hy with rfl | hy; exact h; exact h2 y hy⟩
      · refine .inr ⟨i + 1, y, by rw [h1]; congr 1; omega, by simpa using h2, h3, fun k z hk hz => ?_⟩
        cases k with
        | zero => simp at hz; subst hz; exact h
        | succ k => exact h4 k z (by omega) (by simpa using hz)
theorem findT_spec (l : List T) (s : Step) : (findT l s = -1 ∧ ∀ x ∈ l, stepT x ≠ s) ∨ ∃ (i : Nat) (x : T), findT l s = (i : Int) ∧ l[i]? = some x ∧ stepT x = s ∧ ∀ (k : Nat) y, k < i → l[k]? = some y → stepT y ≠ s := by
  rcases findAt_spec l s 0 with h | ⟨i, x, h1, h2⟩
  · exact .inl h
  · exact .inr ⟨i, x, by rw [findT, h1, Nat.zero_add], h2⟩
theorem edits_front : ∀ (N : Nat) (a b : T) (way : List Step), ∀ e ∈ edits N a b way, ∃ s r, e.way = way ++ s :: r
  | 0, _, _, _ => by simp [edits]
  | N + 1, a, b, way => by
    rw [edits]
    refine mergeE_all _ _ _ (fun x _ e he => ?_) (fun y _ e he => ?_) (fun x _ y _ _ e he => ?_)
    · simp [cutE] at he; subst he; exact ⟨_, [], rfl⟩
    · simp [setE] at he; subst he; exact ⟨_, [], rfl⟩
    · unfold bothE at he
      split at he
      · cases he
      · split at he
        · simp at he; subst he; exact ⟨_, [], rfl⟩
        · split at he
          · simp [cutE, setE] at he
            rcases he with rfl | rfl
            · exact ⟨_, [], rfl⟩
            · exact ⟨_, [], rfl⟩
          · obtain ⟨s, r, h⟩ := edits_front N x y _ e he
            exact ⟨stepT x, s :: r, by rw [h]; simp⟩
theorem less_ne {x y : T} (h : lessT x y = true) : stepT x ≠ stepT y := fun e => by
  have := (lessT_step (z := y) e).1
  rw [h, lessT_irr] at this
  cases this
end Go.Proofs.Ytgkgedjmnbjalaa
set_option linter.unusedSimpArgs false
namespace Go.Proofs.Ytgkgedjmnbjalaa
open Go.RowKit Go.Sort
set_option maxRecDepth 100000 in
set_option maxHeartbeats 4000000 in
theorem law_small17 (a b : T) (S : Nat → Prop) (w : World) (ca cb : List Value) (ha : RT S w a ca) (hb : RT S w b cb) (hsa : a.size ≤ 1048576) (hsb : b.size ≤ 1048576) :
    Calls Try.prog 51 #[.agg ca.toArray, .agg cb.toArray] w fun e w' => e = .returned (.bool (smallB a b)) ∧ Ext w w' := by
  obtain ⟨K1, c1, rfl, _⟩ := ha.row
  obtain ⟨K2, c2, rfl, _⟩ := hb.row
  have za := Hd.mk (fun W (h : Ext w W) => ref_size a.size a S W _ (Nat.le_refl _) hsa (ha.ext h))
  have zb := Hd.mk (fun W (h : Ext w W) => ref_size b.size b S W _ (Nat.le_refl _) hsb (hb.ext h))
  have ra := Hd.mk (fun W (h : Ext w W) => ref_right a.deep a S W _ (Nat.le_refl _) (ha.ext h))
  have rb := Hd.mk (fun W (h : Ext w W) => ref_right b.deep b S W _ (Nat.le_refl _) (hb.ext h))
  generalize hr : smallB a b = r
  replace hr := Hd.mk hr
  clear ha hb
  simp only [cT] at za zb ra rb ⊢
  go_enter Try.func51, Try.ntmps51
  go_wp2_with fail
  have kx := Hd.mk ((Ext.alloc w (.cells #[.string a.name, .string a.key, .int .i64 a.kind, .int .u64 a.num, .string a.text, .slice K1 a.kids.length c1] 54)).trans (Ext.alloc _ (.cells #[.string b.name, .string b.key, .int .i64 b.kind, .int .u64 b.num, .string b.text, .slice K2 b.kids.length c2] 54)))
  have kA := Hd.mk ((Blk.new w #[.string a.name, .string a.key, .int .i64 a.kind, .int .u64 a.num, .string a.text, .slice K1 a.kids.length c1] 54).alloc (.cells #[.string b.name, .string b.key, .int .i64 b.kind, .int .u64 b.num, .string b.text, .slice K2 b.kids.length c2] 54))
  have kB := Hd.mk (Blk.new2 w (.cells #[.string a.name, .string a.key, .int .i64 a.kind, .int .u64 a.num, .string a.text, .slice K1 a.kids.length c1] 54) #[.string b.name, .string b.key, .int .i64 b.kind, .int .u64 b.num, .string b.text, .slice K2 b.kids.length c2] 54)
  generalize w.heap.size = pA at *
  generalize (w.alloc _).alloc _ = W at *
  refine Calls.mono (za.out W kx.out) ?_
  rintro e w1 ⟨rfl, hx⟩
  have kx1 := Hd.mk (kx.out.trans hx)
  have kA1 := Hd.mk (kA.out.ext hx)
  have kB1 := Hd.mk (kB.out.ext hx)
  clear hx kx kA kB za
  have gA := kA1.out.cell
  have gB := kB1.out.cell
  by_cases h1 : 300 < a.size
  · have h0 : r = false := by rw [← hr.out, smallB, decide_eq_false (by omega)]; rfl
    subst h0
    go_wp2_with fail
    go_ret
    exact ⟨rfl, kx1.out⟩
  · go_wp2_with fail
    refine Calls.mono (zb.out w1 kx1.out) ?_
    rintro e w2 ⟨rfl, hx⟩
    have kx2 := Hd.mk (kx1.out.trans hx)
    have kA2 := Hd.mk (kA1.out.ext hx)
    have kB2 := Hd.mk (kB1.out.ext hx)
    clear hx kx1 kA1 kB1 zb gA gB
    have gA := kA2.out.cell
    have gB := kB2.out.cell
    by_cases h2 : 300 < b.size
    · have h0 : r = false := by rw [← hr.out, smallB, decide_eq_false (show ¬ b.size ≤ 300 by omega)]; simp
      subst h0
      go_wp2_with fail
      go_ret
      exact ⟨rfl, kx2.out⟩
    · by_cases h3 : a.kind = 0
      · by_cases h4 : b.kind = 0
        · have h0 : r = (rightT a && rightT b) := by rw [← hr.out, smallB, decide_eq_true (show a.size ≤ 300 by omega), decide_eq_true (show b.size ≤ 300 by omega), decide_eq_true h3, decide_eq_true h4]; rfl
          have h3' : (a.kind != 0) = false := by simpa using h3
          have h4' : (b.kind != 0) = false := by simpa using h4
          clear h3 h4
          replace h0 := Hd.mk h0
          go_wp2_with fail
          refine Calls.mono (ra.out w2 kx2.out) ?_
          rintro e w3 ⟨rfl, hx⟩
          have kx3 := Hd.mk (kx2.out.trans hx)
          have kA3 := Hd.mk (kA2.out.ext hx)
          have kB3 := Hd.mk (kB2.out.ext hx)
          clear hx kx2 kA2 kB2 ra gA gB
          have gA := kA3.out.cell
          have gB := kB3.out.cell
          cases hra : rightT a with
          | false =>
            have h9 : r = false := by rw [h0.out, hra]; rfl
            subst h9
            go_wp2_with fail
            go_ret
            exact ⟨rfl, kx3.out⟩
          | true =>
            have h9 : r = rightT b := by rw [h0.out, hra]; rfl
            subst h9
            go_wp2_with fail
            refine Calls.mono (rb.out w3 kx3.out) ?_
            rintro e w4 ⟨rfl, hx⟩
            have kx4 := Hd.mk (kx3.out.trans hx)
            clear hx kx3 kA3 kB3 rb gA gB
            go_wp2_with fail
            go_ret
            exact ⟨rfl, kx4.out⟩
        · have h0 : r = false := by rw [← hr.out, smallB, decide_eq_false h4]; simp
          subst h0
          have h3' : (a.kind != 0) = false := by simpa using h3
          have h4' : (b.kind != 0) = true := by simpa using h4
          clear h3 h4
          go_wp2_with fail
          go_ret
          exact ⟨rfl, kx2.out⟩
      · have h0 : r = false := by rw [← hr.out, smallB, decide_eq_false h3]; simp
        subst h0
        have h3' : (a.kind != 0) = true := by simpa using h3
        clear h3
        go_wp2_with fail
        go_ret
        exact ⟨rfl, kx2.out⟩
end Go.Proofs.Ytgkgedjmnbjalaa
set_option linter.unusedSimpArgs false
namespace Go.Proofs.Ytgkgedjmnbjalaa
open Go.RowKit Go.Sort
def T.wk (t : T) (l : List T) : T := .mk t.name t.key t.kind t.num t.text l
theorem wk_self (t : T) : t.wk t.kids = t := by cases t; rfl
theorem wk_kids (t : T) (l : List T) : (t.wk l).kids = l := rfl
theorem wk_kind (t : T) (l : List T) : (t.wk l).kind = t.kind := rfl
theorem wk_wk (t : T) (l m : List T) : (t.wk l).wk m = t.wk m := rfl
theorem wk_size (t : T) (l : List T) : (t.wk l).size = 1 + sizeL l := by rw [T.size_eq]; rfl
theorem wk_deep (t : T) (l : List T) : (t.wk l).deep = 1 + deepL l := by rw [T.deep_eq]; rfl
def kid (l : List T) (s : Step) : Option T := l.find? (fun x => decide (stepT x = s))
def repL : List T → Step → T → List T
  | [], _, _ => []
  | y :: l, s, x => if stepT y = s then x :: l else y :: repL l s x
def cutL : List T → Step → List T
  | [], _ => []
  | y :: l, s => if stepT y = s then l else y :: cutL l s
def insL : List T → T → List T
  | [], x => [x]
  | y :: l, x => if lessT y x = true then y :: insL l x else x :: y :: l
def setL (l : List T) (x : T) : List T := if (kid l (stepT x)).isSome = true then repL l (stepT x) x else insL l x
theorem kid_none {l : List T} {s : Step} : kid l s = none ↔ ∀ x ∈ l, stepT x ≠ s := by simp [kid]
theorem kid_some {l : List T} {s : Step} {x : T} (h : kid l s = some x) : ∃ pre suf, l = pre ++ x :: suf ∧ stepT x = s ∧ ∀ p ∈ pre, stepT p ≠ s := by
  obtain ⟨h1, pre, suf, h2, h3⟩ := List.find?_eq_some_iff_append.1 h
  exact ⟨pre, suf, h2, by simpa using h1, fun p hp => by simpa using h3 p hp⟩
theorem kid_pre {s : Step} : ∀ {pre : List T}, (∀ p ∈ pre, stepT p ≠ s) → ∀ l, kid (pre ++ l) s = kid l s
  | [], _, l => rfl
  | p :: pre, h, l => by
    have h1 := h p (by simp)
    have h2 := kid_pre (pre := pre) (fun q hq => h q (by simp [hq])) l
    simp only [kid, List.cons_append, List.find?_cons] at h2 ⊢
    rw [decide_eq_false h1]
    exact h2
theorem rep_pre {s : Step} {x : T} : ∀ {pre : List T}, (∀ p ∈ pre, stepT p ≠ s) → ∀ l, repL (pre ++ l) s x = pre ++ repL l s x
  | [], _, l => rfl
  | p :: pre, h, l => by
    have h1 := h p (by simp)
    have h2 := rep_pre (x := x) (pre := pre) (fun q hq => h q (by simp [hq])) l
    simp only [List.cons_append, repL, if_neg h1, h2]
theorem cut_pre {s : Step} : ∀ {pre : List T}, (∀ p ∈ pre, stepT p ≠ s) → ∀ l, cutL (pre ++ l) s = pre ++ cutL l s
  | [], _, l => rfl
  | p :: pre, h, l => by
    have h1 := h p (by simp)
    have h2 := cut_pre (pre := pre) (fun q hq => h q (by simp [hq])) l
    simp only [List.cons_append, cutL, if_neg h1, h2]
theorem ins_pre {x : T} : ∀ {pre : List T}, (∀ p ∈ pre, lessT p x = true) → ∀ l, insL (pre ++ l) x = pre ++ insL l x
  | [], _, l => rfl
  | p :: pre, h, l => by
    have h1 := h p (by simp)
    have h2 := ins_pre (pre := pre) (fun q hq => h q (by simp [hq])) l
    simp only [List.cons_append, insL, if_pos h1, h2]
theorem kid_at {s : Step} {pre suf : List T} {x : T} (h : ∀ p ∈ pre, stepT p ≠ s) (hx : stepT x = s) : kid (pre ++ x :: suf) s = some x := by
  rw [kid_pre h]; simp [kid, hx]
theorem rep_at {s : Step} {pre suf : List T} {x y : T} (h : ∀ p ∈ pre, stepT p ≠ s) (hx : stepT x = s) : repL (pre ++ x :: suf) s y = pre ++ y :: suf := by
  rw [rep_pre h]; simp [repL, hx]
theorem cut_at {s : Step} {pre suf : List T} {x : T} (h : ∀ p ∈ pre, stepT p ≠ s) (hx : stepT x = s) : cutL (pre ++ x :: suf) s = pre ++ suf := by
  rw [cut_pre h]; simp [cutL, hx]
theorem ins_at {pre suf : List T} {x : T} (h : ∀ p ∈ pre, lessT p x = true) (hx : ∀ z ∈ suf, lessT x z = true) : insL (pre ++ suf) x = pre ++ x :: suf := by
  rw [ins_pre h]
  cases suf with
  | nil => rfl
  | cons z suf => simp [insL, lessT_asymm (hx z (by simp))]
def Srt (l : List T) : Prop := l.Pairwise (fun a b => lessT a b = true)
theorem right_srt : ∀ {l : List T} {p : Option T}, rightL p l = true ↔ (∀ x ∈ l, rightT x = true) ∧ Srt l ∧ ∀ q, p = some q → ∀ x ∈ l, lessT q x = true
  | [], p => by simp [rightL, Srt]
  | x :: l, p => by
    rw [rightL_cons, Bool.and_eq_true, Bool.and_eq_true, right_srt (l := l) (p := some x)]
    constructor
    · rintro ⟨⟨h1, h2⟩, h3, h4, h5⟩
      refine ⟨fun y hy => ?_, List.pairwise_cons.2 ⟨h5 x rfl, h4⟩, fun q hq y hy => ?_⟩
      · rcases List.mem_cons.1 hy with rfl | hy
        · exact h1
        · exact h3 y hy
      · subst hq
        simp only at h2
        rcases List.mem_cons.1 hy with rfl | hy
        · exact h2
        · exact lessT_trans h2 (h5 x rfl y hy)
    · rintro ⟨h1, h2, h3⟩
      have h2' := List.pairwise_cons.1 h2
      refine ⟨⟨h1 x (by simp), ?_⟩, fun y hy => h1 y (by simp [hy]), h2'.2, fun q hq y hy => by cases hq; exact h2'.1 y hy⟩
      cases p with
      | none => rfl
      | some q => exact h3 q rfl x (by simp)
theorem right_box {t : T} (h : t.kind = 0) : rightT t = true ↔ t.num = 0 ∧ t.text = ⟨#[]⟩ ∧ (∀ x ∈ t.kids, rightT x = true) ∧ Srt t.kids := by
  constructor
  · intro hr
    obtain ⟨h1, h2, h3⟩ := right_zero hr h
    obtain ⟨h4, h5, _⟩ := right_srt.1 h3
    exact ⟨h1, h2, h4, h5⟩
  · rintro ⟨h1, h2, h3, h4⟩
    have h5 : rightL none t.kids = true := right_srt.2 ⟨h3, h4, fun q hq => by cases hq⟩
    obtain ⟨n, k, d, m, x, l⟩ := t
    simp only [T.kind, T.num, T.text, T.kids] at h h1 h2 h5
    subst h h1 h2
    simp [rightT, h5]
theorem right_kid' {t x : T} (h : rightT t = true) (hx : x ∈ t.kids) : t.kind = 0 ∧ rightT x = true := by
  by_cases h0 : t.kind = 0
  · exact ⟨h0, ((right_box h0).1 h).2.2.1 x hx⟩
  · rw [right_leaf h h0] at hx; cases hx
theorem srt_split {pre suf : List T} {x : T} (h : Srt (pre ++ x :: suf)) : (∀ p ∈ pre, lessT p x = true) ∧ (∀ z ∈ suf, lessT x z = true) ∧ Srt (pre ++ suf) ∧ ∀ y, stepT y = stepT x → Srt (pre ++ y :: suf) := by
  obtain ⟨h1, h2, h3⟩ := List.pairwise_append.1 h
  obtain ⟨h4, h5⟩ := List.pairwise_cons.1 h2
  have h6 : ∀ p ∈ pre, lessT p x = true := fun p hp => h3 p hp x (by simp)
  refine ⟨h6, h4, List.pairwise_append.2 ⟨h1, h5, fun p hp z hz => h3 p hp z (by simp [hz])⟩, fun y hy => List.pairwise_append.2 ⟨h1, List.pairwise_cons.2 ⟨fun z hz => ?_, h5⟩, fun p hp z hz => ?_⟩⟩
  · rw [(lessT_step (z := z) hy).1]; exact h4 z hz
  · rcases List.mem_cons.1 hz with rfl | hz
    · rw [(lessT_step (z := p) hy).2]; exact h6 p hp
    · exact h3 p hp z (by simp [hz])
theorem srt_ins {x : T} : ∀ {l : List T}, Srt l → (∀ y ∈ l, stepT y ≠ stepT x) → ∃ pre suf, l = pre ++ suf ∧ (∀ p ∈ pre, lessT p x = true) ∧ (∀ z ∈ suf, lessT x z = true) ∧ Srt (pre ++ x :: suf)
  | [], _, _ => ⟨[], [], rfl, by simp, by simp, by simp [Srt]⟩
  | y :: l, h, hn => by
    obtain ⟨h1, h2⟩ := List.pairwise_cons.1 h
    by_cases hy : lessT y x = true
    · obtain ⟨pre, suf, rfl, e2, e3, e4⟩ := srt_ins h2 (fun z hz => hn z (by simp [hz]))
      refine ⟨y :: pre, suf, rfl, fun p hp => ?_, e3, List.pairwise_cons.2 ⟨fun z hz => ?_, e4⟩⟩
      · rcases List.mem_cons.1 hp with rfl | hp
        · exact hy
        · exact e2 p hp
      · rcases List.mem_append.1 hz with hz | hz
        · exact h1 z (by simp [hz])
        · rcases List.mem_cons.1 hz with rfl | hz
          · exact hy
          · exact h1 z (by simp [hz])
    · have hxy : lessT x y = true := by
        cases hc : lessT x y with
        | true => rfl
        | false => exact absurd (step_of_less (by simpa using hy) hc) (hn y (by simp))
      refine ⟨[], y :: l, rfl, by simp, fun z hz => ?_, List.pairwise_cons.2 ⟨fun z hz => ?_, h⟩⟩
      all_goals
        rcases List.mem_cons.1 hz with rfl | hz
        · exact hxy
        · exact lessT_trans hxy (h1 z hz)
theorem setL_new {l : List T} {x : T} (h : Srt l) (hk : kid l (stepT x) = none) : ∃ pre suf, l = pre ++ suf ∧ setL l x = pre ++ x :: suf ∧ (∀ p ∈ pre, lessT p x = true) ∧ (∀ z ∈ suf, lessT x z = true) ∧ Srt (pre ++ x :: suf) := by
  obtain ⟨pre, suf, rfl, h2, h3, h4⟩ := srt_ins h (kid_none.1 hk)
  refine ⟨pre, suf, rfl, ?_, h2, h3, h4⟩
  rw [setL, hk, if_neg (by simp), ins_at h2 h3]
theorem setL_old {l : List T} {x k : T} (hk : kid l (stepT x) = some k) : ∃ pre suf, l = pre ++ k :: suf ∧ setL l x = pre ++ x :: suf ∧ stepT k = stepT x ∧ ∀ p ∈ pre, stepT p ≠ stepT x := by
  obtain ⟨pre, suf, rfl, h2, h3⟩ := kid_some hk
  refine ⟨pre, suf, rfl, ?_, h2, h3⟩
  rw [setL, hk, if_pos (by simp), rep_at h3 h2]
def getT : T → List Step → Option T
  | t, [] => some t
  | t, s :: r => (kid t.kids s).bind fun k => getT k r
theorem getT_cons (t : T) (s : Step) (r : List Step) : getT t (s :: r) = (kid t.kids s).bind fun k => getT k r := rfl
theorem getT_one (t : T) (s : Step) : getT t [s] = kid t.kids s := by rw [getT_cons]; cases kid t.kids s <;> rfl
theorem getT_append : ∀ (l m : List Step) (t : T), getT t (l ++ m) = (getT t l).bind fun u => getT u m
  | [], m, t => rfl
  | s :: l, m, t => by
    rw [List.cons_append, getT_cons, getT_cons]
    cases kid t.kids s with
    | none => rfl
    | some k => exact getT_append l m k
def setT : T → List Step → T → T
  | t, [], _ => t
  | t, [_], x => t.wk (setL t.kids x)
  | t, s :: q :: r, x => match kid t.kids s with | none => t | some k => t.wk (repL t.kids s (setT k (q :: r) x))
def cutT : T → List Step → T
  | t, [] => t
  | t, [s] => t.wk (cutL t.kids s)
  | t, s :: q :: r => match kid t.kids s with | none => t | some k => t.wk (repL t.kids s (cutT k (q :: r)))
def setR (n : T) (way : List Step) (x : T) : T × Int :=
  if way.getLast? = some (stepT x) then
    match getT n way.dropLast with
    | none => (zeroT, 30)
    | some p => if p.kind ≠ 0 then (zeroT, 30) else (setT n way x, 0)
  else (zeroT, 1)
def cutR (n : T) (way : List Step) : T × Int :=
  if way = [] then (zeroT, 30) else match getT n way with | none => (zeroT, 30) | some _ => (cutT n way, 0)
theorem setR_cons (n : T) (s q : Step) (r : List Step) (x : T) : setR n (s :: q :: r) x = if (q :: r).getLast? = some (stepT x) then (match kid n.kids s with | none => (zeroT, 30) | some k => if (setR k (q :: r) x).2 = 0 then (n.wk (repL n.kids s (setR k (q :: r) x).1), 0) else setR k (q :: r) x) else (zeroT, 1) := by
  unfold setR
  rw [List.getLast?_cons_cons, List.dropLast_cons_cons, getT_cons]
  by_cases h : (q :: r).getLast? = some (stepT x)
  · simp only [if_pos h]
    rw [setT]
    cases hk : kid n.kids s with
    | none => rfl
    | some k =>
      simp only [Option.bind_some]
      cases hg : getT k (q :: r).dropLast with
      | none => simp
      | some p =>
        by_cases hp : p.kind ≠ 0
        · simp [hp]
        · simp [hp]
  · simp only [if_neg h]
theorem cutR_cons (n : T) (s q : Step) (r : List Step) : cutR n (s :: q :: r) = match kid n.kids s with | none => (zeroT, 30) | some k => if (cutR k (q :: r)).2 = 0 then (n.wk (repL n.kids s (cutR k (q :: r)).1), 0) else cutR k (q :: r) := by
  unfold cutR
  simp only [reduceCtorEq, ↓reduceIte]
  rw [getT_cons, cutT]
  cases hk : kid n.kids s with
  | none => rfl
  | some k =>
    simp only [Option.bind_some]
    cases hg : getT k (q :: r) with
    | none => simp
    | some p => simp
theorem setR_one (n : T) (s : Step) (x : T) : setR n [s] x = if s = stepT x then (if n.kind ≠ 0 then (zeroT, 30) else (n.wk (setL n.kids x), 0)) else (zeroT, 1) := by
  unfold setR
  by_cases h : s = stepT x
  · simp [h, getT, setT]
  · simp [h]
theorem cutR_one (n : T) (s : Step) : cutR n [s] = match kid n.kids s with | none => (zeroT, 30) | some _ => (n.wk (cutL n.kids s), 0) := by
  unfold cutR
  rw [if_neg (by simp), getT_one]
  rfl
def oneT (n : T) (e : E) : T × Int :=
  if e.way = [] ∨ ¬ (e.kind = 1 ∨ e.kind = 2 ∨ e.kind = 3) ∨ (e.kind ≠ 2 ∧ e.way.getLast? ≠ some (stepT e.node)) ∨ (e.kind ≠ 1 ∧ e.way.getLast? ≠ some (stepT e.old)) then (zeroT, 1)
  else if e.kind = 1 then (if (getT n e.way).isSome = true then (zeroT, 24) else setR n e.way e.node)
  else match getT n e.way with
    | none => (zeroT, 30)
    | some y => if sameT y e.old = false then (zeroT, 23) else if e.kind = 2 then cutR n e.way else if e.node.kind = 0 ∨ e.old.kind = 0 then (zeroT, 23) else setR n e.way e.node
def applyT : T → List E → Nat → T × Int × Nat
  | n, [], _ => (n, 0, 0)
  | n, e :: es, i => if (oneT n e).2 = 0 then applyT (oneT n e).1 es (i + 1) else (zeroT, (oneT n e).2, i)
theorem oneT_cons (n : T) (d : Int) (s q : Step) (r : List Step) (x y : T) {k : T} (hk : kid n.kids s = some k) : oneT n ⟨d, s :: q :: r, x, y⟩ = if (oneT k ⟨d, q :: r, x, y⟩).2 = 0 then (n.wk (repL n.kids s (oneT k ⟨d, q :: r, x, y⟩).1), 0) else oneT k ⟨d, q :: r, x, y⟩ := by
  unfold oneT
  simp only [List.getLast?_cons_cons]
  by_cases h : (q :: r = [] ∨ ¬ (d = 1 ∨ d = 2 ∨ d = 3) ∨ (d ≠ 2 ∧ (q :: r).getLast? ≠ some (stepT x)) ∨ (d ≠ 1 ∧ (q :: r).getLast? ≠ some (stepT y)))
  · have h' : (s :: q :: r = [] ∨ ¬ (d = 1 ∨ d = 2 ∨ d = 3) ∨ (d ≠ 2 ∧ (q :: r).getLast? ≠ some (stepT x)) ∨ (d ≠ 1 ∧ (q :: r).getLast? ≠ some (stepT y))) := by
      rcases h with h | h
      · cases h
      · exact .inr h
    rw [if_pos h, if_pos h']
    simp
  · have h' : ¬ (s :: q :: r = [] ∨ ¬ (d = 1 ∨ d = 2 ∨ d = 3) ∨ (d ≠ 2 ∧ (q :: r).getLast? ≠ some (stepT x)) ∨ (d ≠ 1 ∧ (q :: r).getLast? ≠ some (stepT y))) := by
      rintro (h2 | h2)
      · cases h2
      · exact h (.inr h2)
    rw [if_neg h, if_neg h']
    have hg : getT n (s :: q :: r) = getT k (q :: r) := by rw [getT_cons, hk]; rfl
    have hs : (q :: r).getLast? = some (stepT x) → setR n (s :: q :: r) x = if (setR k (q :: r) x).2 = 0 then (n.wk (repL n.kids s (setR k (q :: r) x).1), 0) else setR k (q :: r) x := fun hl => by rw [setR_cons, if_pos hl, hk]
    have hc : cutR n (s :: q :: r) = if (cutR k (q :: r)).2 = 0 then (n.wk (repL n.kids s (cutR k (q :: r)).1), 0) else cutR k (q :: r) := by rw [cutR_cons, hk]
    have hl : d ≠ 2 → (q :: r).getLast? = some (stepT x) := fun hd => Classical.byContradiction fun hn => h (.inr (.inr (.inl ⟨hd, hn⟩)))
    rw [hg]
    by_cases h1 : d = 1
    · rw [if_pos h1, if_pos h1]
      by_cases h2 : (getT k (q :: r)).isSome = true
      · simp [h2]
      · simp only [if_neg h2]
        exact hs (hl (by omega))
    · rw [if_neg h1, if_neg h1]
      cases hgk : getT k (q :: r) with
      | none => simp
      | some u =>
        simp only
        by_cases h2 : sameT u y = false
        · simp [h2]
        · simp only [if_neg h2]
          by_cases h3 : d = 2
          · simp only [if_pos h3]; exact hc
          · simp only [if_neg h3]
            by_cases h4 : x.kind = 0 ∨ y.kind = 0
            · simp [h4]
            · simp only [if_neg h4]; exact hs (hl h3)
end Go.Proofs.Ytgkgedjmnbjalaa
set_option linter.unusedSimpArgs false
namespace Go.Proofs.Ytgkgedjmnbjalaa
open Go.RowKit Go.Sort
theorem setL_facts {l : List T} {x : T} (h : Srt l) : Srt (setL l x) ∧ kid (setL l x) (stepT x) = some x ∧ (∀ y ∈ setL l x, y = x ∨ y ∈ l) := by
  cases hk : kid l (stepT x) with
  | none =>
    obtain ⟨pre, suf, e, h1, h2, h3, h4⟩ := setL_new h hk
    rw [h1]
    refine ⟨h4, kid_at (fun p hp => less_ne (h2 p hp)) rfl, fun y hy => ?_⟩
    subst e
    simp at hy ⊢
    rcases hy with h | h | h
    · exact .inr (.inl h)
    · exact .inl h
    · exact .inr (.inr h)
  | some k =>
    obtain ⟨pre, suf, e, h1, h2, h3⟩ := setL_old hk
    rw [h1]
    subst e
    refine ⟨(srt_split h).2.2.2 x h2.symm, kid_at h3 rfl, fun y hy => ?_⟩
    simp at hy ⊢
    rcases hy with h | h | h
    · exact .inr (.inl h)
    · exact .inl h
    · exact .inr (.inr (.inr h))
theorem cutL_facts {l : List T} {s : Step} (h : Srt l) : Srt (cutL l s) ∧ kid (cutL l s) s = none ∧ (∀ y ∈ cutL l s, y ∈ l) := by
  cases hk : kid l s with
  | none =>
    have : cutL l s = l := by
      have := cut_pre (kid_none.1 hk) []
      simpa [cutL] using this
    rw [this]
    exact ⟨h, hk, fun y hy => hy⟩
  | some k =>
    obtain ⟨pre, suf, e, h2, h3⟩ := kid_some hk
    subst e
    rw [cut_at h3 h2]
    obtain ⟨h4, h5, h6, _⟩ := srt_split h
    refine ⟨h6, kid_none.2 fun y hy => ?_, fun y hy => by simp at hy ⊢; rcases hy with h | h; exact .inl h; exact .inr (.inr h)⟩
    rcases List.mem_append.1 hy with hy | hy
    · exact h3 y hy
    · rw [← h2]; exact (less_ne (h5 y hy)).symm
theorem repL_facts {l : List T} {s : Step} {k x : T} (h : Srt l) (hk : kid l s = some k) (hx : stepT x = s) : Srt (repL l s x) ∧ kid (repL l s x) s = some x ∧ (∀ y ∈ repL l s x, y = x ∨ y ∈ l) ∧ (∀ y, repL (repL l s x) s y = repL l s y) ∧ repL l s k = l := by
  obtain ⟨pre, suf, e, h2, h3⟩ := kid_some hk
  subst e
  rw [rep_at h3 h2]
  refine ⟨(srt_split h).2.2.2 x (hx.trans h2.symm), kid_at h3 hx, fun y hy => ?_, fun y => by rw [rep_at h3 hx, rep_at h3 h2], rep_at h3 h2⟩
  simp at hy ⊢
  rcases hy with h | h | h
  · exact .inr (.inl h)
  · exact .inl h
  · exact .inr (.inr (.inr h))
theorem cut_set {l : List T} {x : T} (h : Srt l) (hk : kid l (stepT x) = none) : cutL (setL l x) (stepT x) = l := by
  obtain ⟨pre, suf, e, h1, h2, h3, h4⟩ := setL_new h hk
  rw [h1, cut_at (fun p hp => less_ne (h2 p hp)) rfl, e]
theorem set_cut {l : List T} {s : Step} {x : T} (h : Srt l) (hk : kid l s = some x) : setL (cutL l s) x = l := by
  obtain ⟨pre, suf, e, h2, h3⟩ := kid_some hk
  subst e h2
  have hn := (cutL_facts (s := stepT x) h).2.1
  rw [setL, hn, if_neg (by simp), cut_at h3 rfl]
  obtain ⟨h4, h5, _⟩ := srt_split h
  exact ins_at h4 h5
theorem set_set {l : List T} {k x : T} (h : Srt l) (hk : kid l (stepT x) = some k) (hs : stepT k = stepT x) : setL (setL l x) k = l := by
  obtain ⟨pre, suf, e, h1, h2, h3⟩ := setL_old hk
  rw [h1, e, setL, hs, kid_at h3 rfl, if_pos (by simp), rep_at h3 rfl]
theorem right_wk {t : T} {l : List T} (h : rightT t = true) (h0 : t.kind = 0) (h1 : ∀ x ∈ l, rightT x = true) (h2 : Srt l) : rightT (t.wk l) = true :=
  (right_box (t := t.wk l) h0).2 ⟨((right_box h0).1 h).1, ((right_box h0).1 h).2.1, h1, h2⟩
theorem right_has {t x : T} {s : Step} (h : rightT t = true) (hk : kid t.kids s = some x) : t.kind = 0 ∧ rightT x = true ∧ Srt t.kids ∧ stepT x = s := by
  obtain ⟨pre, suf, e, h2, h3⟩ := kid_some hk
  have hx : x ∈ t.kids := by rw [e]; simp
  obtain ⟨h0, h1⟩ := right_kid' h hx
  exact ⟨h0, h1, ((right_box h0).1 h).2.2.2, h2⟩
theorem setR_right : ∀ (way : List Step) (n x m : T), rightT n = true → rightT x = true → setR n way x = (m, 0) → rightT m = true ∧ stepT m = stepT n ∧ m.kind = n.kind
  | [], n, x, m, _, _, h => by simp [setR] at h
  | [s], n, x, m, hn, hx, h => by
    rw [setR_one] at h
    split at h
    · split at h
      · simp at h
      · rename_i h1 h2
        have h0 : n.kind = 0 := Classical.byContradiction h2
        simp at h
        subst h
        obtain ⟨a1, a2, a3, a4⟩ := (right_box h0).1 hn
        obtain ⟨b1, b2, b3⟩ := setL_facts (x := x) a4
        refine ⟨right_wk hn h0 (fun y hy => ?_) b1, rfl, rfl⟩
        rcases b3 y hy with rfl | hy
        · exact hx
        · exact a3 y hy
    · simp at h
  | s :: q :: r, n, x, m, hn, hx, h => by
    rw [setR_cons] at h
    split at h
    · cases hk : kid n.kids s with
      | none => rw [hk] at h; simp at h
      | some k =>
        rw [hk] at h
        simp only at h
        obtain ⟨h0, h1, h2, h3⟩ := right_has hn hk
        by_cases hz : (setR k (q :: r) x).2 = 0
        · rw [if_pos hz] at h
          simp at h
          subst h
          obtain ⟨e1, e2, e3⟩ := setR_right (q :: r) k x _ h1 hx (Prod.ext rfl hz)
          obtain ⟨f1, f2, f3, _⟩ := repL_facts h2 hk (e2.trans h3)
          refine ⟨right_wk hn h0 (fun y hy => ?_) f1, rfl, rfl⟩
          rcases f3 y hy with rfl | hy
          · exact e1
          · exact ((right_box h0).1 hn).2.2.1 y hy
        · rw [if_neg hz] at h; rw [h] at hz; exact absurd rfl hz
    · simp at h
theorem cutR_right : ∀ (way : List Step) (n m : T), rightT n = true → cutR n way = (m, 0) → rightT m = true ∧ stepT m = stepT n ∧ m.kind = n.kind
  | [], n, m, _, h => by simp [cutR] at h
  | [s], n, m, hn, h => by
    rw [cutR_one] at h
    cases hk : kid n.kids s with
    | none => rw [hk] at h; simp at h
    | some k =>
      rw [hk] at h
      simp at h
      subst h
      obtain ⟨h0, h1, h2, h3⟩ := right_has hn hk
      obtain ⟨b1, b2, b3⟩ := cutL_facts (s := s) h2
      exact ⟨right_wk hn h0 (fun y hy => ((right_box h0).1 hn).2.2.1 y (b3 y hy)) b1, rfl, rfl⟩
  | s :: q :: r, n, m, hn, h => by
    rw [cutR_cons] at h
    cases hk : kid n.kids s with
    | none => rw [hk] at h; simp at h
    | some k =>
      rw [hk] at h
      simp only at h
      obtain ⟨h0, h1, h2, h3⟩ := right_has hn hk
      by_cases hz : (cutR k (q :: r)).2 = 0
      · rw [if_pos hz] at h
        simp at h
        subst h
        obtain ⟨e1, e2, e3⟩ := cutR_right (q :: r) k _ h1 (Prod.ext rfl hz)
        obtain ⟨f1, f2, f3, _⟩ := repL_facts h2 hk (e2.trans h3)
        refine ⟨right_wk hn h0 (fun y hy => ?_) f1, rfl, rfl⟩
        rcases f3 y hy with rfl | hy
        · exact e1
        · exact ((right_box h0).1 hn).2.2.1 y hy
      · rw [if_neg hz] at h; rw [h] at hz; exact absurd rfl hz
theorem oneT_right {n m : T} {e : E} (hn : rightT n = true) (he : e.kind ≠ 2 → rightT e.node = true) (h : oneT n e = (m, 0)) : rightT m = true ∧ stepT m = stepT n ∧ m.kind = n.kind := by
  unfold oneT at h
  split at h
  · simp at h
  · split at h
    · rename_i h1
      split at h
      · simp at h
      · exact setR_right _ _ _ _ hn (he (by omega)) h
    · split at h
      · simp at h
      · split at h
        · simp at h
        · split at h
          · exact cutR_right _ _ _ hn h
          · split at h
            · simp at h
            · rename_i h1 _ _ _ h2 _
              exact setR_right _ _ _ _ hn (he h2) h
def backE (e : E) : E := if e.kind = 1 then ⟨2, e.way, zeroT, e.node⟩ else if e.kind = 2 then ⟨1, e.way, e.old, zeroT⟩ else ⟨3, e.way, e.old, e.node⟩
theorem oneT_back : ∀ (way : List Step) (d : Int) (x y n m : T), Fit ⟨d, way, x, y⟩ → rightT n = true → oneT n ⟨d, way, x, y⟩ = (m, 0) →
    oneT m (backE ⟨d, way, x, y⟩) = (n, 0) ∧ getT m way = (if d = 2 then none else some x) ∧ (d ≠ 1 → getT n way = some y) ∧ (d = 1 → getT n way = none) ∧ stepT m = stepT n
  | [], d, x, y, n, m, _, _, h => by simp [oneT] at h
  | [s], d, x, y, n, m, hf, hn, h => by
    unfold oneT at h
    split at h
    · simp at h
    · rename_i hc
      simp only [List.cons_ne_self, List.cons_ne_nil, false_or, not_or, not_and, Classical.not_not, List.getLast?_singleton, Option.some.injEq] at hc
      obtain ⟨hd, hx, hy⟩ := hc
      simp only [getT_one] at h ⊢
      by_cases h1 : d = 1
      · subst h1
        simp only [if_pos] at h
        cases hk : kid n.kids s with
        | some k => rw [hk] at h; simp at h
        | none =>
          rw [hk, if_neg (by simp), setR_one] at h
          have hs : s = stepT x := hx (by omega)
          rw [if_pos hs] at h
          split at h
          · simp at h
          · rename_i hnk
            have h0 : n.kind = 0 := Classical.byContradiction hnk
            simp at h
            subst h
            subst hs
            have hsrt := ((right_box h0).1 hn).2.2.2
            obtain ⟨b1, b2, b3⟩ := setL_facts (x := x) hsrt
            refine ⟨?_, by simpa [wk_kids] using b2, by simp, by simp, rfl⟩
            unfold backE
            simp only [if_pos]
            unfold oneT
            rw [if_neg (by simp), if_neg (by simp)]
            simp only [getT_one, wk_kids, b2]
            rw [if_neg (by simp [sameT_rfl]), if_pos trivial, cutR_one]
            simp only [wk_kids, b2, cut_set hsrt hk, wk_wk, wk_self]
      · simp only [if_neg h1] at h
        have hy1 : s = stepT y := hy h1
        cases hk : kid n.kids s with
        | none => rw [hk] at h; simp at h
        | some k =>
          rw [hk] at h
          simp only at h
          split at h
          · simp at h
          · rename_i hsm
            obtain rfl : k = y := sameT_iff.1 (by simpa using hsm)
            obtain ⟨h0, hkr, hsrt, hks⟩ := right_has hn hk
            by_cases h2 : d = 2
            · subst h2
              simp only [if_pos, cutR_one, hk] at h
              simp at h
              subst h
              obtain ⟨b1, b2, b3⟩ := cutL_facts (s := s) hsrt
              refine ⟨?_, by simpa [wk_kids] using b2, by simp, by simp, rfl⟩
              unfold backE
              simp only
              rw [if_neg (by omega), if_pos trivial]
              unfold oneT
              rw [if_neg (by simp [hy1]), if_pos rfl]
              simp only [getT_one, wk_kids, b2]
              rw [if_neg (by simp), setR_one, if_pos hy1, if_neg (by simp [wk_kind, h0])]
              simp only [wk_kids, wk_wk, set_cut hsrt hk, wk_self]
            · simp only [if_neg h2] at h
              split at h
              · simp at h
              · rename_i hkk
                have hs : s = stepT x := hx h2
                rw [setR_one, if_pos hs, if_neg (by simp [h0])] at h
                simp at h
                subst h
                subst hs
                obtain ⟨b1, b2, b3⟩ := setL_facts (x := x) hsrt
                refine ⟨?_, by simpa [h2, wk_kids] using b2, by simp [hk], by simp [h1], rfl⟩
                have hkx : x.kind ≠ 0 := fun hh => hkk (.inl hh)
                have hky : k.kind ≠ 0 := fun hh => hkk (.inr hh)
                have hb : backE ⟨d, [stepT x], x, k⟩ = ⟨3, [stepT x], k, x⟩ := by simp [backE, h1, h2]
                rw [hb]
                unfold oneT
                rw [if_neg (by simp [hy1])]
                simp only [getT_one, wk_kids, b2, Int.reduceEq, ↓reduceIte]
                rw [if_neg (by simp [sameT_rfl]), if_neg (by simp [hkx, hky]), setR_one, if_pos hy1, if_neg (by simp [wk_kind, h0])]
                simp only [wk_kids, wk_wk, set_set hsrt hk hy1.symm, wk_self]
  | s :: q :: r, d, x, y, n, m, hf, hn, h => by
    cases hk : kid n.kids s with
    | none =>
      exfalso
      unfold oneT at h
      simp only [getT_cons, hk, Option.bind_none, setR_cons] at h
      split at h
      · simp at h
      · split at h
        · simp at h
          split at h <;> simp at h
        · simp at h
    | some k =>
      rw [oneT_cons n d s q r x y hk] at h
      obtain ⟨h0, hkr, hsrt, hks⟩ := right_has hn hk
      by_cases hz : (oneT k ⟨d, q :: r, x, y⟩).2 = 0
      · rw [if_pos hz] at h
        simp at h
        subst h
        obtain ⟨e1, e2, e3, e4, e5⟩ := oneT_back (q :: r) d x y k _ hf hkr (Prod.ext rfl hz)
        obtain ⟨k', hk'⟩ : ∃ k', (oneT k ⟨d, q :: r, x, y⟩).1 = k' := ⟨_, rfl⟩
        have e1 := e1
        simp only [hk'] at e1 e2 e5 ⊢
        obtain ⟨f1, f2, f3, f4, f5⟩ := repL_facts hsrt hk (e5.trans hks)
        refine ⟨?_, ?_, ?_, ?_, rfl⟩
        · have hb : ∃ d' x' y', backE ⟨d, q :: r, x, y⟩ = ⟨d', q :: r, x', y'⟩ ∧ backE ⟨d, s :: q :: r, x, y⟩ = ⟨d', s :: q :: r, x', y'⟩ := by
            unfold backE
            simp only
            split
            · exact ⟨_, _, _, rfl, rfl⟩
            · split
              · exact ⟨_, _, _, rfl, rfl⟩
              · exact ⟨_, _, _, rfl, rfl⟩
          obtain ⟨d', x', y', g1, g2⟩ := hb
          rw [g1] at e1
          rw [g2, oneT_cons (n.wk (repL n.kids s k')) d' s q r x' y' (k := k') f2, e1, if_pos rfl]
          simp only [wk_kids, wk_wk, f4, f5, wk_self]
        · rw [getT_cons, wk_kids, f2]; exact e2
        · intro hd; rw [getT_cons, hk]; exact e3 hd
        · intro hd; rw [getT_cons, hk]; exact e4 hd
      · rw [if_neg hz] at h; rw [h] at hz; exact absurd rfl hz
end Go.Proofs.Ytgkgedjmnbjalaa
set_option linter.unusedSimpArgs false
namespace Go.Proofs.Ytgkgedjmnbjalaa
open Go.RowKit Go.Sort
theorem own_keep {w w' : World} {B : Nat} {e : TypeId} {sz n : Nat} {v : Value} {xs : List Value} (h : w.ownsRow B e sz v n xs) (hk : ∀ g, v.ownBlock = some g → w'.heap[g]? = w.heap[g]?) : w'.ownsRow B e sz v n xs := by
  refine ⟨h.1, ?_⟩
  rcases h.2 with hn | ⟨g, cap, cur, rfl, hb, hgg, rest⟩
  · exact .inl hn
  · exact .inr ⟨g, cap, cur, rfl, hb, by rw [hk g rfl]; exact hgg, rest⟩
theorem own_weak {w : World} {B B' : Nat} {e : TypeId} {sz n : Nat} {v : Value} {xs : List Value} (hB : B' ≤ B) (h : w.ownsRow B e sz v n xs) : w.ownsRow B' e sz v n xs := by
  refine ⟨h.1, ?_⟩
  rcases h.2 with hn | ⟨g, cap, cur, rfl, hb, hgg, rest⟩
  · exact .inl hn
  · exact .inr ⟨g, cap, cur, rfl, by omega, hgg, rest⟩
theorem own_cap {w : World} {B : Nat} {e : TypeId} {sz n m c : Nat} {K : Option Addr} {xs : List Value} (h : w.ownsRow B e sz (.slice K m c) n xs) : n ≤ c ∧ c ≤ maxLen ∧ (K = none → c = 0) ∧ ∀ a, K = some a → ∃ g, a = ⟨g, 0, none⟩ ∧ B ≤ g ∧ g < w.heap.size := by
  rcases h.2 with ⟨hv, h0⟩ | ⟨g, cap, cur, hv, hb, hg, hc, hm, hs, ht⟩
  · simp only [Value.slice.injEq] at hv
    obtain ⟨rfl, rfl, rfl⟩ := hv
    subst h0
    exact ⟨Nat.le_refl _, Nat.zero_le _, fun _ => rfl, fun a ha => by cases ha⟩
  · simp only [Value.slice.injEq] at hv
    obtain ⟨rfl, rfl, rfl⟩ := hv
    exact ⟨hc, hm, fun h => (by cases h), fun a ha => (by cases ha; exact ⟨g, rfl, hb, heap_lt hg⟩)⟩
inductive OT : (Nat → Prop) → World → T → List Value → Prop where
  | mk (S : Nat → Prop) (w : World) (name key : ByteArray) (kind num : Int) (text : ByteArray) (kids : List T) (K : Option Addr) (kc : Nat) (css : List (List Value)) (Si : Nat → Nat → Prop)
    (hl : css.length = kids.length) (h6 : ∀ c ∈ css, c.length = 6) (hb : kids.length ≤ 1048576)
    (hown : w.ownsRow 0 54 6 (.slice K kids.length kc) kids.length css.flatten)
    (hg : ∀ g, (Value.slice K kids.length kc).ownBlock = some g → S g ∧ ∀ i, ¬ Si i g)
    (hS : ∀ i b, Si i b → S b)
    (hd : ∀ i j b, Si i b → Si j b → i = j)
    (hr : ∀ (i : Nat) k c, kids[i]? = some k → css[i]? = some c → OT (Si i) w k c) :
    OT S w (.mk name key kind num text kids) (cT name key kind num text K kids.length kc)
structure ORow (S : Nat → Prop) (w : World) (K : Option Addr) (kids : List T) (kc : Nat) (css : List (List Value)) (Si : Nat → Nat → Prop) : Prop where
  hl : css.length = kids.length
  h6 : ∀ c ∈ css, c.length = 6
  hb : kids.length ≤ 1048576
  own : w.ownsRow 0 54 6 (.slice K kids.length kc) kids.length css.flatten
  g : ∀ g, (Value.slice K kids.length kc).ownBlock = some g → S g ∧ ∀ i, ¬ Si i g
  sub : ∀ i b, Si i b → S b
  dis : ∀ i j b, Si i b → Si j b → i = j
  each : ∀ (i : Nat) k c, kids[i]? = some k → css[i]? = some c → OT (Si i) w k c
theorem OT.row {S : Nat → Prop} {w : World} {t : T} {c : List Value} (h : OT S w t c) : ∃ K kc css Si, c = cT t.name t.key t.kind t.num t.text K t.kids.length kc ∧ ORow S w K t.kids kc css Si := by
  cases h with
  | mk S w name key kind num text kids K kc css Si hl h6 hb hown hg hS hd hr => exact ⟨K, kc, css, Si, rfl, ⟨hl, h6, hb, hown, hg, hS, hd, hr⟩⟩
theorem OT.of_row {S : Nat → Prop} {w : World} {t : T} {K : Option Addr} {kc : Nat} {css : List (List Value)} {Si : Nat → Nat → Prop} (h : ORow S w K t.kids kc css Si) : OT S w t (cT t.name t.key t.kind t.num t.text K t.kids.length kc) := by
  obtain ⟨name, key, kind, num, text, kids⟩ := t
  exact .mk S w name key kind num text kids K kc css Si h.hl h.h6 h.hb h.own h.g h.sub h.dis h.each
theorem OT.len {S : Nat → Prop} {w : World} {t : T} {c : List Value} (h : OT S w t c) : c.length = 6 := by cases h; rfl
theorem OT.mono {S S' : Nat → Prop} {w : World} {t : T} {c : List Value} (hs : ∀ b, S b → S' b) (h : OT S w t c) : OT S' w t c := by
  cases h with
  | mk S w name key kind num text kids K kc css Si hl h6 hb hown hg hS hd hr =>
    exact .mk S' w name key kind num text kids K kc css Si hl h6 hb hown (fun g h => ⟨hs g (hg g h).1, (hg g h).2⟩) (fun i b h => hs b (hS i b h)) hd hr
theorem OT.keep {S : Nat → Prop} {w w' : World} {t : T} {c : List Value} (h : OT S w t c) (hk : ∀ b, S b → w'.heap[b]? = w.heap[b]?) : OT S w' t c := by
  induction h with
  | mk S w name key kind num text kids K kc css Si hl h6 hb hown hg hS hd hr ih =>
    exact .mk S w' name key kind num text kids K kc css Si hl h6 hb (own_keep hown fun g h => hk g (hg g h).1) hg hS hd (fun i k c hi hc => ih i k c hi hc fun b hb => hk b (hS i b hb))
theorem OT.ext {S : Nat → Prop} {w w' : World} {t : T} {c : List Value} (hS : ∀ b, S b → b < w.heap.size) (hx : Ext w w') (h : OT S w t c) : OT S w' t c := h.keep fun b hb => hx.block b (hS b hb)
theorem OT.rt {S : Nat → Prop} {w : World} {t : T} {c : List Value} (h : OT S w t c) : RT S w t c := by
  induction h with
  | mk S w name key kind num text kids K kc css Si hl h6 hb hown hg hS hd hr ih =>
    obtain ⟨h1, _, h3, _⟩ := own_cap hown
    refine .mk name key kind num text kids K kc css hl h6 (fun hn => ?_) (fun i k c hi hc => (ih i k c hi hc).mono fun b _ hb => hS i b hb) ⟨h1, hb, h3⟩
    obtain ⟨g, cap, sp, hv, _, hbk, _⟩ := own_form hown (by cases kids with | nil => exact absurd rfl hn | cons x l => simp)
    simp only [Value.slice.injEq] at hv
    obtain ⟨rfl, _, _⟩ := hv
    refine ⟨g, 0, rfl, (hg g rfl).1, fun j v hj => ?_⟩
    rw [Nat.zero_add, hbk.cell, List.getElem?_append_left (List.getElem?_eq_some_iff.1 hj).1]
    exact hj
theorem ORow.rrow {S : Nat → Prop} {w : World} {K : Option Addr} {kids : List T} {kc : Nat} {css : List (List Value)} {Si : Nat → Nat → Prop} (h : ORow S w K kids kc css Si) : RRow S w K kids kc := by
  have h1 := (OT.of_row (t := .mk ⟨#[]⟩ ⟨#[]⟩ 0 0 ⟨#[]⟩ kids) (K := K) (kc := kc) h).rt
  obtain ⟨K', kc', h2, h3⟩ := h1.row
  simp only [cT, T.name, T.key, T.kind, T.num, T.text, T.kids, List.cons.injEq, Value.slice.injEq, true_and, and_true] at h2
  obtain ⟨rfl, rfl⟩ := h2
  exact h3
theorem own_set6 {w w' : World} {B n kc g i : Nat} {css : List (List Value)} {cs' c' : List Value} (h6 : ∀ c ∈ css, c.length = 6) (hl : css.length = n) (hown : w.ownsRow B 54 6 (.slice (some ⟨g, 0, none⟩) n kc) n css.flatten) (hi : i < n) (hc' : c'.length = 6)
    (hb : ∀ cs, Blk w g cs 54 → Blk w' g cs' 54 ∧ cs'.length = cs.length ∧ (∀ p, p < i * 6 ∨ i * 6 + 6 ≤ p → cs'[p]? = cs[p]?) ∧ ∀ q v, c'[q]? = some v → cs'[i * 6 + q]? = some v) :
    w'.ownsRow B 54 6 (.slice (some ⟨g, 0, none⟩) n kc) n (css.set i c').flatten := by
  obtain ⟨g', cap, sp, hv, hB, hbk, hn, hm, hs⟩ := own_form hown (by omega)
  simp only [Value.slice.injEq, Option.some.injEq, Addr.mk.injEq, and_true, true_and] at hv
  obtain ⟨rfl, rfl⟩ := hv
  obtain ⟨b1, b2, b3, b4⟩ := hb _ hbk
  have h6' : ∀ c ∈ css.set i c', c.length = 6 := fun c hc => by
    rcases List.mem_or_eq_of_mem_set hc with hc | hc
    · exact h6 c hc
    · rw [hc]; exact hc'
  have hf : css.flatten.length = n * 6 := by rw [flatten_len css h6, hl]
  have hf' : (css.set i c').flatten.length = n * 6 := by rw [flatten_len _ h6', List.length_set, hl]
  have e : cs' = (css.set i c').flatten ++ sp := by
    apply List.ext_getElem?
    intro p
    by_cases hp : p < n * 6
    · rw [List.getElem?_append_left (by omega)]
      have hq : p / 6 < n := Nat.div_lt_of_lt_mul (by omega)
      have hpq : p = p / 6 * 6 + p % 6 := by omega
      by_cases he : p / 6 = i
      · have hlt : p % 6 < c'.length := by rw [hc']; omega
        have h1 := b4 (p % 6) _ (List.getElem?_eq_getElem hlt)
        have h2 := flatten_get (css.set i c') h6' i c' (List.getElem?_set_self (by omega)) (p % 6) _ (List.getElem?_eq_getElem hlt)
        rw [← he] at h1 h2
        rw [← hpq] at h1 h2
        rw [he] at h2
        rw [h1, h2]
      · have hci : (css[p / 6]'(by omega)).length = 6 := h6 _ (List.getElem_mem _)
        have hlt : p % 6 < (css[p / 6]'(by omega)).length := by omega
        have h1 := flatten_get css h6 (p / 6) _ (List.getElem?_eq_getElem (by omega)) (p % 6) _ (List.getElem?_eq_getElem hlt)
        have h2 := flatten_get (css.set i c') h6' (p / 6) _ (by rw [List.getElem?_set_ne (fun h => he h.symm)]; exact List.getElem?_eq_getElem (by omega)) (p % 6) _ (List.getElem?_eq_getElem hlt)
        rw [← hpq] at h1 h2
        rw [h2, b3 p (by omega), List.getElem?_append_left (by omega), h1]
    · rw [List.getElem?_append_right (by omega), b3 p (by omega), List.getElem?_append_right (by omega), hf, hf']
  subst e
  exact own_intro hB b1 hn hm (by rw [b2]; exact hs) hf'
theorem ORow.set {S Sx : Nat → Prop} {w w' : World} {K : Option Addr} {kids : List T} {kc i N : Nat} {css : List (List Value)} {Si : Nat → Nat → Prop} {x : T} {cx : List Value} (h : ORow S w K kids kc css Si) (hN : ∀ b, S b → b < N)
    (hx : OT Sx w' x cx) (hsx : ∀ b, Sx b → Si i b ∨ N ≤ b) (hown : w'.ownsRow 0 54 6 (.slice K kids.length kc) kids.length (css.set i cx).flatten) (hk : ∀ j, j ≠ i → ∀ b, Si j b → w'.heap[b]? = w.heap[b]?) :
    ORow (fun b => S b ∨ N ≤ b) w' K (kids.set i x) kc (css.set i cx) (fun j b => if j = i then Sx b else Si j b) := by
  refine ⟨by simp [h.hl], fun c hc => ?_, by simp [h.hb], by simpa using hown, fun g hg => ?_, fun j b hb => ?_, fun j j' b h1 h2 => ?_, fun j k c hj hc => ?_⟩
  · rcases List.mem_or_eq_of_mem_set hc with hc | hc
    · exact h.h6 c hc
    · rw [hc]; exact hx.len
  · rw [List.length_set] at hg
    obtain ⟨g1, g2⟩ := h.g g hg
    refine ⟨.inl g1, fun j => ?_⟩
    split
    · intro hs
      rcases hsx g hs with h3 | h3
      · exact g2 i h3
      · have := hN g g1; omega
    · exact g2 j
  · split at hb
    · rcases hsx b hb with h3 | h3
      · exact .inl (h.sub i b h3)
      · exact .inr h3
    · exact .inl (h.sub j b hb)
  · split at h1 <;> split at h2
    · omega
    · rename_i e1 e2
      rcases hsx b h1 with h3 | h3
      · have := h.dis i j' b h3 h2; omega
      · have := hN b (h.sub j' b h2); omega
    · rename_i e1 e2
      rcases hsx b h2 with h3 | h3
      · have := h.dis i j b h3 h1; omega
      · have := hN b (h.sub j b h1); omega
    · exact h.dis j j' b h1 h2
  · by_cases hji : j = i
    · subst hji
      have hlt : j < kids.length := by have := (List.getElem?_eq_some_iff.1 hj).1; simpa using this
      rw [List.getElem?_set_self hlt] at hj
      rw [List.getElem?_set_self (by rw [h.hl]; exact hlt)] at hc
      cases hj; cases hc
      simpa using hx
    · rw [List.getElem?_set_ne (fun e => hji e.symm)] at hj hc
      simp only [if_neg hji]
      exact (h.each j k c hj hc).keep fun b hb => hk j hji b hb
theorem ORow.perm {S Sx : Nat → Prop} {w w' : World} {K K' : Option Addr} {kids kids' : List T} {kc kc' N : Nat} {css css' : List (List Value)} {Si : Nat → Nat → Prop} {x : T} {cx : List Value} (h : ORow S w K kids kc css Si) (hN : ∀ b, S b → b < N) (f : Nat → Option Nat)
    (hx : (∃ j, f j = none) → OT Sx w' x cx) (hsx : ∀ b, Sx b → N ≤ b) (hl' : css'.length = kids'.length) (hb' : kids'.length ≤ 1048576)
    (hf : ∀ (j : Nat) k c, kids'[j]? = some k → css'[j]? = some c → (∃ i, f j = some i ∧ kids[i]? = some k ∧ css[i]? = some c) ∨ (f j = none ∧ k = x ∧ c = cx))
    (hinj : ∀ j j', f j = f j' → j = j') (hown : w'.ownsRow 0 54 6 (.slice K' kids'.length kc') kids'.length css'.flatten) (hk : ∀ i b, Si i b → w'.heap[b]? = w.heap[b]?)
    (hg' : ∀ g, (Value.slice K' kids'.length kc').ownBlock = some g → (Value.slice K kids.length kc).ownBlock = some g ∨ (N ≤ g ∧ ¬ Sx g)) :
    ORow (fun b => S b ∨ N ≤ b) w' K' kids' kc' css' (fun j b => match f j with | some i => Si i b | none => Sx b) := by
  have hlen : ∀ j, j < css'.length → ∃ k c, kids'[j]? = some k ∧ css'[j]? = some c := fun j hj => ⟨_, _, List.getElem?_eq_getElem (by omega), List.getElem?_eq_getElem hj⟩
  refine ⟨hl', fun c hc => ?_, hb', hown, fun g hg => ?_, fun j b hb => ?_, fun j j' b h1 h2 => ?_, fun j k c hj hc => ?_⟩
  · obtain ⟨j, hj⟩ := List.getElem?_of_mem hc
    obtain ⟨k, c2, e1, e2⟩ := hlen j (List.getElem?_eq_some_iff.1 hj).1
    rw [hj] at e2; cases e2
    rcases hf j k c e1 hj with ⟨i, _, _, h2⟩ | ⟨h1, _, h2⟩
    · exact h.h6 c (List.mem_of_getElem? h2)
    · rw [h2]; exact (hx ⟨j, h1⟩).len
  · rcases hg' g hg with h1 | ⟨h1, h2⟩
    · obtain ⟨g1, g2⟩ := h.g g h1
      refine ⟨.inl g1, fun j => ?_⟩
      split
      · exact g2 _
      · intro hs; have := hN g g1; have := hsx g hs; omega
    · refine ⟨.inr h1, fun j => ?_⟩
      split
      · intro hs; have := hN g (h.sub _ g hs); omega
      · exact h2
  · split at hb
    · exact .inl (h.sub _ b hb)
    · exact .inr (hsx b hb)
  · split at h1 <;> split at h2
    · rename_i _ i e1 _ i' e2
      have := h.dis i i' b h1 h2
      exact hinj j j' (by rw [e1, e2, this])
    · have := hN b (h.sub _ b h1); have := hsx b h2; omega
    · have := hN b (h.sub _ b h2); have := hsx b h1; omega
    · rename_i e1 _ e2
      exact hinj j j' (by rw [e1, e2])
  · rcases hf j k c hj hc with ⟨i, e1, e2, e3⟩ | ⟨e1, rfl, rfl⟩
    · simp only [e1]
      exact (h.each i k c e2 e3).keep fun b hb => hk i b hb
    · simp only [e1]
      exact hx ⟨j, e1⟩
end Go.Proofs.Ytgkgedjmnbjalaa
set_option linter.unusedSimpArgs false
namespace Go.Proofs.Ytgkgedjmnbjalaa
open Go.RowKit Go.Sort
def preE (w : List Step) (e : E) : E := ⟨e.kind, w ++ e.way, e.node, e.old⟩
theorem mergeE_map {one other one' other' : T → List E} {both both' : T → T → List E} {f : E → E} (h1 : ∀ x, one' x = (one x).map f) (h2 : ∀ y, other' y = (other y).map f) (h3 : ∀ x y, both' x y = (both x y).map f) :
    ∀ (n : Nat) (xs ys : List T), mergeE one' other' both' n xs ys = (mergeE one other both n xs ys).map f
  | 0, _, _ => by simp [mergeE]
  | n + 1, [], [] => by simp [mergeE]
  | n + 1, x :: xs, [] => by simp [mergeE, h1, mergeE_map h1 h2 h3 n xs []]
  | n + 1, [], y :: ys => by simp [mergeE, h2, mergeE_map h1 h2 h3 n [] ys]
  | n + 1, x :: xs, y :: ys => by
    simp only [mergeE]
    split
    · rw [List.map_append, h1, mergeE_map h1 h2 h3 n xs (y :: ys)]
    · split
      · rw [List.map_append, h2, mergeE_map h1 h2 h3 n (x :: xs) ys]
      · rw [List.map_append, h3, mergeE_map h1 h2 h3 n xs ys]
theorem edits_map : ∀ (N : Nat) (a b : T) (w : List Step), edits N a b w = (edits N a b []).map (preE w)
  | 0, a, b, w => by simp [edits]
  | N + 1, a, b, w => by
    rw [edits, edits]
    refine mergeE_map (fun x => by simp [cutE, preE]) (fun y => by simp [setE, preE]) (fun x y => ?_) _ _ _
    unfold bothE
    split
    · rfl
    · split
      · simp [preE]
      · split
        · simp [cutE, setE, preE]
        · rw [edits_map N x y (w ++ [stepT x]), edits_map N x y ([] ++ [stepT x]), List.map_map]
          refine List.map_congr_left fun e _ => ?_
          simp [preE]
theorem one_cut {t : T} {pre suf : List T} {x : T} (h : ∀ p ∈ pre, stepT p ≠ stepT x) : oneT (t.wk (pre ++ x :: suf)) ⟨2, [stepT x], zeroT, x⟩ = (t.wk (pre ++ suf), 0) := by
  unfold oneT
  rw [if_neg (by simp), if_neg (by simp)]
  simp only [getT_one, wk_kids, kid_at h rfl]
  rw [if_neg (by simp [sameT_rfl]), if_pos trivial, cutR_one]
  simp only [wk_kids, kid_at h rfl, cut_at h rfl, wk_wk]
theorem one_set {t : T} {pre suf : List T} {y : T} (h0 : t.kind = 0) (h : ∀ p ∈ pre, lessT p y = true) (h2 : ∀ z ∈ suf, lessT y z = true) : oneT (t.wk (pre ++ suf)) ⟨1, [stepT y], y, zeroT⟩ = (t.wk (pre ++ y :: suf), 0) := by
  have hn : kid (pre ++ suf) (stepT y) = none := kid_none.2 fun z hz => by
    rcases List.mem_append.1 hz with hz | hz
    · exact less_ne (h z hz)
    · exact (less_ne (h2 z hz)).symm
  unfold oneT
  rw [if_neg (by simp), if_pos rfl]
  simp only [getT_one, wk_kids, hn]
  rw [if_neg (by simp), setR_one, if_pos rfl, if_neg (by simp [wk_kind, h0])]
  simp only [wk_kids, wk_wk, setL, hn]
  rw [if_neg (by simp), ins_at h h2]
theorem one_rep {t : T} {pre suf : List T} {x y : T} (h0 : t.kind = 0) (h : ∀ p ∈ pre, stepT p ≠ stepT x) (hs : stepT x = stepT y) (hx : x.kind ≠ 0) (hy : y.kind ≠ 0) : oneT (t.wk (pre ++ x :: suf)) ⟨3, [stepT x], y, x⟩ = (t.wk (pre ++ y :: suf), 0) := by
  unfold oneT
  rw [if_neg (by simp [hs]), if_neg (by simp)]
  simp only [getT_one, wk_kids, kid_at h rfl]
  rw [if_neg (by simp [sameT_rfl]), if_neg (by simp), if_neg (by simp [hx, hy]), setR_one, if_pos hs, if_neg (by simp [wk_kind, h0])]
  simp only [wk_kids, wk_wk, setL, ← hs, kid_at h rfl]
  rw [if_pos (by simp), rep_at h rfl]
abbrev mE (N : Nat) : Nat → List T → List T → List E := mergeE (cutE []) (setE []) (bothE (edits N) [])
theorem both_self (N : Nat) (x : T) : bothE (edits N) [] x x = [] := by simp [bothE, sameT_rfl]
def StepsTo (N : Nat) : Prop := ∀ (x y : T) (e : E) (es : List E), x.deep ≤ N → y.deep ≤ N → x.kind = 0 → y.kind = 0 → rightT x = true → rightT y = true → edits N x y [] = e :: es →
  ∃ x', oneT x e = (x', 0) ∧ rightT x' = true ∧ stepT x' = stepT x ∧ x'.kind = 0 ∧ x'.deep ≤ N ∧ edits N x' y [] = es
theorem box_eq {x y : T} (hx : rightT x = true) (hy : rightT y = true) (h1 : x.kind = 0) (h2 : y.kind = 0) (hs : stepT x = stepT y) (hk : x.kids = y.kids) : x = y := by
  obtain ⟨a1, a2, _⟩ := right_zero hx h1
  obtain ⟨b1, b2, _⟩ := right_zero hy h2
  exact T.ext' hs (by rw [h1, h2]) (by rw [a1, b1]) (by rw [a2, b2]) hk
theorem merge_step {N : Nat} (ih : StepsTo N) {t : T} (h0 : t.kind = 0) : ∀ (fuel : Nat) (pre xs ys : List T) (e : E) (es : List E), (∀ x ∈ xs, rightT x = true ∧ x.deep ≤ N) → (∀ y ∈ ys, rightT y = true ∧ y.deep ≤ N) → Srt (pre ++ xs) → Srt (pre ++ ys) →
    xs.length + ys.length ≤ fuel → mE N fuel xs ys = e :: es →
    ∃ xs', oneT (t.wk (pre ++ xs)) e = (t.wk (pre ++ xs'), 0) ∧ (∀ x ∈ xs', rightT x = true ∧ x.deep ≤ N) ∧ Srt (pre ++ xs') ∧ ∀ f, xs'.length + ys.length ≤ f → mE N f xs' ys = es
  | 0, pre, xs, ys, e, es, hx, hy, sx, sy, hf, h => by simp [mE, mergeE] at h
  | n + 1, pre, [], [], e, es, hx, hy, sx, sy, hf, h => by simp [mE, mergeE] at h
  | n + 1, pre, x :: xs, [], e, es, hx, hy, sx, sy, hf, h => by
    simp only [mE, mergeE, cutE, List.nil_append, List.cons_append, List.cons.injEq] at h
    obtain ⟨rfl, rfl⟩ := h
    obtain ⟨a1, a2, a3, _⟩ := srt_split sx
    refine ⟨xs, one_cut (fun p hp => less_ne (a1 p hp)), fun z hz => hx z (by simp [hz]), a3, fun f hff => mergeE_fuel f n xs [] hff (by simp at hf ⊢; omega)⟩
  | n + 1, pre, [], y :: ys, e, es, hx, hy, sx, sy, hf, h => by
    simp only [mE, mergeE, setE, List.nil_append, List.cons_append, List.cons.injEq] at h
    obtain ⟨rfl, rfl⟩ := h
    obtain ⟨a1, a2, a3, _⟩ := srt_split sy
    refine ⟨[y], one_set h0 a1 (fun z hz => by cases hz), fun z hz => ?_, ?_, fun f hff => ?_⟩
    · simp at hz; subst hz; exact hy z (by simp)
    · obtain ⟨b1, _, b3⟩ := List.pairwise_append.1 sy
      exact List.pairwise_append.2 ⟨b1, List.pairwise_singleton _ _, fun p hp z hz => by simp at hz; subst hz; exact a1 p hp⟩
    · simp only [List.length_cons, List.length_nil] at hff hf
      obtain ⟨f, rfl⟩ : ∃ f', f = f' + 1 := ⟨f - 1, by omega⟩
      show mE N (f + 1) [y] (y :: ys) = _
      rw [mE, mergeE_eq f [] ys (lessT_irr y) (lessT_irr y), both_self, List.nil_append]
      exact mergeE_fuel f n [] ys (by simp; omega) (by simp; omega)
  | n + 1, pre, x :: xs, y :: ys, e, es, hx, hy, sx, sy, hf, h => by
    simp only [List.length_cons] at hf
    obtain ⟨a1, a2, a3, a4⟩ := srt_split sx
    obtain ⟨b1, b2, b3, b4⟩ := srt_split sy
    have hx0 := hx x (by simp)
    have hy0 := hy y (by simp)
    have hxs : ∀ z ∈ xs, rightT z = true ∧ z.deep ≤ N := fun z hz => hx z (by simp [hz])
    have hys : ∀ z ∈ ys, rightT z = true ∧ z.deep ≤ N := fun z hz => hy z (by simp [hz])
    by_cases hlt : lessT x y = true
    · rw [mE, mergeE_lt n xs ys hlt] at h
      simp only [cutE, List.nil_append, List.cons_append, List.cons.injEq] at h
      obtain ⟨rfl, rfl⟩ := h
      exact ⟨xs, one_cut (fun p hp => less_ne (a1 p hp)), hxs, a3, fun f hff => mergeE_fuel f n xs (y :: ys) hff (by simp; omega)⟩
    · have hlt' : lessT x y = false := by simpa using hlt
      by_cases hgt : lessT y x = true
      · rw [mE, mergeE_gt n xs ys hlt' hgt] at h
        simp only [setE, List.nil_append, List.cons_append, List.cons.injEq] at h
        obtain ⟨rfl, rfl⟩ := h
        have hyx : ∀ z ∈ x :: xs, lessT y z = true := fun z hz => by
          rcases List.mem_cons.1 hz with rfl | hz
          · exact hgt
          · exact lessT_trans hgt (a2 z hz)
        refine ⟨y :: x :: xs, one_set h0 b1 hyx, fun z hz => ?_, ?_, fun f hff => ?_⟩
        · rcases List.mem_cons.1 hz with rfl | hz
          · exact hy0
          · exact hx z hz
        · obtain ⟨c1, c2, c3⟩ := List.pairwise_append.1 sx
          exact List.pairwise_append.2 ⟨c1, List.pairwise_cons.2 ⟨hyx, c2⟩, fun p hp z hz => by
            rcases List.mem_cons.1 hz with rfl | hz
            · exact b1 p hp
            · exact c3 p hp z hz⟩
        · simp only [List.length_cons] at hff
          obtain ⟨f, rfl⟩ : ∃ f', f = f' + 1 := ⟨f - 1, by omega⟩
          rw [mE, mergeE_eq f (x :: xs) ys (lessT_irr y) (lessT_irr y), both_self, List.nil_append]
          exact mergeE_fuel f n (x :: xs) ys (by simp; omega) (by simp; omega)
      · have hgt' : lessT y x = false := by simpa using hgt
        have hst := step_of_less hlt' hgt'
        rw [mE, mergeE_eq n xs ys hlt' hgt'] at h
        have hpx : ∀ p ∈ pre, stepT p ≠ stepT x := fun p hp => less_ne (a1 p hp)
        have hsy := a4 y hst.symm
        by_cases hsm : sameT x y = true
        · obtain rfl := sameT_iff.1 hsm
          rw [both_self, List.nil_append] at h
          obtain ⟨xs', c1, c2, c3, c4⟩ := merge_step ih h0 n (pre ++ [x]) xs ys e es hxs hys (by simpa using sx) (by simpa using sy) (by omega) h
          refine ⟨x :: xs', by simpa using c1, fun z hz => ?_, by simpa using c3, fun f hff => ?_⟩
          · rcases List.mem_cons.1 hz with rfl | hz
            · exact hx0
            · exact c2 z hz
          · simp only [List.length_cons] at hff
            obtain ⟨f, rfl⟩ : ∃ f', f = f' + 1 := ⟨f - 1, by omega⟩
            rw [mE, mergeE_eq f xs' ys (lessT_irr x) (lessT_irr x), both_self, List.nil_append]
            exact c4 f (by omega)
        · unfold bothE at h
          rw [if_neg hsm] at h
          by_cases hll : x.kind ≠ 0 ∧ y.kind ≠ 0
          · rw [if_pos hll] at h
            simp only [List.nil_append, List.cons_append, List.cons.injEq] at h
            obtain ⟨rfl, rfl⟩ := h
            refine ⟨y :: xs, one_rep h0 hpx hst hll.1 hll.2, fun z hz => ?_, hsy, fun f hff => ?_⟩
            · rcases List.mem_cons.1 hz with rfl | hz
              · exact hy0
              · exact hxs z hz
            · simp only [List.length_cons] at hff
              obtain ⟨f, rfl⟩ : ∃ f', f = f' + 1 := ⟨f - 1, by omega⟩
              rw [mE, mergeE_eq f xs ys (lessT_irr y) (lessT_irr y), both_self, List.nil_append]
              exact mergeE_fuel f n xs ys (by omega) (by omega)
          · rw [if_neg hll] at h
            have hyz : ∀ z ∈ xs, lessT y z = true := fun z hz => by rw [← (lessT_step (z := z) hst).1]; exact a2 z hz
            by_cases hl1 : x.kind ≠ 0 ∨ y.kind ≠ 0
            · rw [if_pos hl1] at h
              simp only [cutE, setE, List.nil_append, List.cons_append, List.cons.injEq] at h
              obtain ⟨rfl, rfl⟩ := h
              refine ⟨xs, one_cut hpx, hxs, a3, fun f hff => ?_⟩
              simp only [List.length_cons] at hff
              obtain ⟨f, rfl⟩ : ∃ f', f = f' + 1 := ⟨f - 1, by omega⟩
              cases xs with
              | nil =>
                rw [mE, mergeE_y]
                simp only [setE, List.nil_append, List.cons_append, List.cons.injEq, true_and]
                exact mergeE_fuel f n [] ys (by simp at hff ⊢; omega) (by simp at hf ⊢; omega)
              | cons z xs =>
                have hz := hyz z (by simp)
                rw [mE, mergeE_gt f xs ys (lessT_asymm hz) hz]
                simp only [setE, List.nil_append, List.cons_append, List.cons.injEq, true_and]
                exact mergeE_fuel f n (z :: xs) ys (by simp at hff ⊢; omega) (by simp at hf ⊢; omega)
            · rw [if_neg hl1] at h
              simp only [not_or, Classical.not_not] at hl1
              obtain ⟨k1, k2⟩ := hl1
              rw [edits_map] at h
              cases hed : edits N x y [] with
              | nil =>
                exfalso
                have hkids := (edits_nil N x y [] hx0.2 ((right_box k1).1 hx0.1).2.2.1 ((right_box k2).1 hy0.1).2.2.1).1 hed
                exact hsm (sameT_iff.2 (box_eq hx0.1 hy0.1 k1 k2 hst hkids))
              | cons e1 es1 =>
                rw [hed] at h
                simp only [List.nil_append, List.map_cons, List.cons_append, List.cons.injEq] at h
                obtain ⟨rfl, rfl⟩ := h
                obtain ⟨x', d1, d2, d3, d4, d5, d6⟩ := ih x y e1 es1 hx0.2 hy0.2 k1 k2 hx0.1 hy0.1 hed
                obtain ⟨s, r, hw⟩ := edits_front N x y [] e1 (by rw [hed]; simp)
                obtain ⟨ek, ew, en, eo⟩ := e1
                simp only [List.nil_append] at hw
                subst hw
                refine ⟨x' :: xs, ?_, fun z hz => ?_, a4 x' d3, fun f hff => ?_⟩
                · show oneT (t.wk (pre ++ x :: xs)) ⟨ek, stepT x :: s :: r, en, eo⟩ = _
                  rw [oneT_cons _ ek (stepT x) s r en eo (k := x) (by rw [wk_kids]; exact kid_at hpx rfl), d1, if_pos rfl]
                  simp only [wk_kids, wk_wk, rep_at hpx rfl]
                · rcases List.mem_cons.1 hz with rfl | hz
                  · exact ⟨d2, d5⟩
                  · exact hxs z hz
                · simp only [List.length_cons] at hff
                  obtain ⟨f, rfl⟩ : ∃ f', f = f' + 1 := ⟨f - 1, by omega⟩
                  have hst' : stepT x' = stepT y := d3.trans hst
                  rw [mE, mergeE_eq f xs ys (by rw [(lessT_step (z := y) hst').1]; exact lessT_irr y) (by rw [(lessT_step (z := y) hst').2]; exact lessT_irr y)]
                  congr 1
                  · unfold bothE
                    by_cases hs2 : sameT x' y = true
                    · rw [if_pos hs2]
                      obtain rfl := sameT_iff.1 hs2
                      rw [edits_self] at d6
                      rw [← d6]
                      rfl
                    · rw [if_neg hs2, if_neg (by simp [d4]), if_neg (by simp [d4, k2]), edits_map, d6, d3, List.nil_append]
                  · exact mergeE_fuel f n xs ys (by omega) (by omega)
theorem deep_of_mem {l : List T} {N : Nat} (h : ∀ x ∈ l, x.deep ≤ N) : deepL l ≤ N := by
  induction l with
  | nil => simp [deepL]
  | cons x l ih => have := h x (by simp); have := ih (fun y hy => h y (by simp [hy])); simp [deepL]; omega
theorem edits_step : ∀ N, StepsTo N
  | 0 => fun x y e es hx _ _ _ _ _ _ => by rw [x.deep_eq] at hx; omega
  | N + 1 => fun x y e es hx hy k1 k2 rx ry h => by
    rw [edits] at h
    obtain ⟨_, _, a3, a4⟩ := (right_box k1).1 rx
    obtain ⟨_, _, b3, b4⟩ := (right_box k2).1 ry
    rw [x.deep_eq] at hx
    rw [y.deep_eq] at hy
    obtain ⟨xs', c1, c2, c3, c4⟩ := merge_step (edits_step N) (t := x) k1 _ [] x.kids y.kids e es (fun z hz => ⟨a3 z hz, by have := kid_le_deep hz; omega⟩) (fun z hz => ⟨b3 z hz, by have := kid_le_deep hz; omega⟩) a4 b4 (Nat.le_refl _) h
    simp only [List.nil_append, wk_self] at c1 c3
    refine ⟨x.wk xs', c1, right_wk rx k1 (fun z hz => (c2 z hz).1) c3, rfl, k1, ?_, ?_⟩
    · rw [wk_deep]; have := deep_of_mem (fun z hz => (c2 z hz).2); omega
    · rw [edits]; exact c4 _ (Nat.le_refl _)
end Go.Proofs.Ytgkgedjmnbjalaa

/- few: are edits few, and their nodes small? Inverse of the document's edits.
   Conditions: none. -/
import Derived.Test.YtgkgedjmnbjalaaTP
import Derived.Test.YtgkgedjmnbjalaaTT
import Derived.Test.YtgkgedjmnbjalaaTZ
set_option linter.unusedSimpArgs false
namespace Go.Proofs.Ytgkgedjmnbjalaa
open Go.RowKit Go.Sort

/-- Yes or no. -/
def SomeB (w : World) (e : Ending) (w' : World) : Prop := (∃ b, e = .returned (.bool b)) ∧ Ext w w'

set_option maxRecDepth 100000 in
set_option maxHeartbeats 4000000 in
theorem law_few (l : List E) (S : Nat → Prop) (w : World) (K : Option Addr) (c : Nat) (hr : ERow S w K l c) (hb : ∀ (i : Nat) e, l[i]? = some e → e.node.size ≤ 1048576 ∧ e.old.size ≤ 1048576) :
    Calls Try.prog 42 #[.slice K l.length c] w (SomeB w) := by
  have kr := Hd.mk hr
  have hl := hr.len
  replace hb := Hd.mk hb
  clear hr
  go_enter Try.func42, Try.ntmps42
  go_wp2_with fail
  go_loopg [3] (l.length + 1) (fun q i wr => ∃ j : Nat, j ≤ l.length ∧ Hd (q = l.length + 1 - j) ∧ i = .int .i64 j ∧ Hd (Ext w wr))
  case atStart => exact ⟨0, by omega, ⟨by omega⟩, rfl, ⟨Ext.refl _⟩⟩
  case round =>
  obtain ⟨j, hj, hq, rfl, hxr⟩ := hrel
  by_cases hlt : j < l.length
  · have hx1 := List.getElem?_eq_getElem hlt
    generalize l[j] = x at hx1
    obtain ⟨hs1, hs2⟩ := hb.out j x hx1
    obtain ⟨b1, o1, ck, rfl, _, hrk, hck⟩ := kr.out.edit j x hx1
    obtain ⟨A1, a1, K3, k3, L3, l3, rfl, hwr, hnr, hor⟩ := hrk
    have hwl := hwr.len
    have hc1 := Hd.mk (fun W (h : Ext w W) => ref_size x.node.size x.node S W _ (Nat.le_refl _) hs1 ((RT.of_row hnr).ext h))
    have hc2 := Hd.mk (fun W (h : Ext w W) => ref_size x.old.size x.old S W _ (Nat.le_refl _) hs2 ((RT.of_row hor).ext h))
    have kck := Hd.mk hck
    obtain ⟨e0, e1, e2, e3, e4, e5, e6, e7, e8, e9, e10, e11, e12, e13⟩ := c14C hxr.out hck
    have lt1 := World.block_lt_of_cell? wr _ e0
    clear hck hx1 hwr hnr hor
    simp only [cT] at hc1 hc2
    go_wp2_with fail
    refine Calls.mono (hc1.out _ hxr.out) ?_
    rintro e w2 ⟨rfl, hx⟩
    clear hc1 e0 e1 e2 e3 e4 e5 e6 e7 e8 e9 e10 e11 e12 e13 lt1
    have hxr2 := Hd.mk (hxr.out.trans hx)
    clear hx
    obtain ⟨e0, e1, e2, e3, e4, e5, e6, e7, e8, e9, e10, e11, e12, e13⟩ := c14C hxr2.out kck.out
    have lt1 := World.block_lt_of_cell? w2 _ e0
    by_cases h1 : 300 < x.node.size
    · go_wp2_with fail
      go_ret
      exact ⟨⟨_, rfl⟩, hxr2.out⟩
    · go_wp2_with fail
      refine Calls.mono (hc2.out _ hxr2.out) ?_
      rintro e w3 ⟨rfl, hx⟩
      clear hc2 e0 e1 e2 e3 e4 e5 e6 e7 e8 e9 e10 e11 e12 e13 lt1
      have hxr3 := Hd.mk (hxr2.out.trans hx)
      clear hx
      obtain ⟨e0, e1, -⟩ := c14C hxr3.out kck.out
      have lt1 := World.block_lt_of_cell? w3 _ e0
      by_cases h2 : 300 < x.old.size
      · go_wp2_with fail
        go_ret
        exact ⟨⟨_, rfl⟩, hxr3.out⟩
      · by_cases h3 : 20 < x.way.length
        · go_wp2_with fail
          go_ret
          exact ⟨⟨_, rfl⟩, hxr3.out⟩
        · go_wp2_with fail
          go_roundg (l.length + 1 - (j + 1))
          case measure => have := hq.out; omega
          case rel => exact ⟨j + 1, by omega, ⟨rfl⟩, by go_num, hxr3⟩
  · have hjl : j = l.length := by omega
    subst hjl
    go_wp2_with fail
    go_ret
    exact ⟨⟨_, rfl⟩, hxr.out⟩

theorem inverse_drop {es : List E} {m : Nat} {x : E} (h : es[m]? = some x) : inverse (es.drop m) = inverse (es.drop (m + 1)) ++ inv1 x := by
  obtain ⟨h1, h2⟩ := List.getElem?_eq_some_iff.1 h
  rw [List.drop_eq_getElem_cons h1, h2]
  simp [inverse, List.flatMap_append]

set_option maxRecDepth 100000 in
set_option maxHeartbeats 4000000 in
theorem ref_inverse (es : List E) (S : Nat → Prop) (w : World) (A : Option Addr) (c : Nat) (hr : ERow S w A es c) :
    Calls Try.prog 44 #[.slice A es.length c] w (Ret (EdPost (inverse es) w)) := by
  have kr := Hd.mk (hr.keep (S' := (· < w.heap.size)) (fun b off v hb hc => ⟨World.block_lt_of_cell? w _ hc, hc⟩))
  have hlen := hr.len
  clear hr
  go_enter Try.func44, Try.ntmps44
  go_wp2_with fail
  go_loopg [3, 4] (es.length + 1) (fun q s3 s4 wr => ∃ (k : Nat) (css : List (List Value)) (V : Option Addr) (vc : Nat), k ≤ es.length ∧ Hd (q = k + 1) ∧ s3 = .slice V (inverse (es.drop k)).length vc ∧ s4 = .int .i64 ((k : Int) - 1) ∧
    Hd (OutR w.heap.size (fun _ => True) wr (.slice V (inverse (es.drop k)).length vc) css (inverse (es.drop k))) ∧ Hd (Ext w wr))
  case atStart =>
    have h0 : inverse (es.drop es.length) = [] := by rw [List.drop_length]; rfl
    refine ⟨es.length, [], none, 0, Nat.le_refl _, ⟨rfl⟩, ?_, by go_num, ?_, ⟨Ext.refl _⟩⟩
    · rw [h0]; rfl
    · rw [h0]; exact ⟨OutR.nil _ _ _⟩
  case round =>
  obtain ⟨k, css, V, vc, hk, hq, rfl, rfl, hO, hxr⟩ := hrel
  have hdl := inverse_len (es.drop k)
  rw [List.length_drop] at hdl
  cases k with
  | zero =>
    rw [List.drop_zero] at hO hdl ⊢
    obtain ⟨A6, c6, e6, hrow⟩ := hO.out.row (Nat.le_trans (inverse_len es) hlen)
    cases e6
    replace hrow := Hd.mk hrow
    clear hO
    go_wp2_with fail
    go_ret
    exact ⟨_, rfl, V, vc, rfl, hrow.out, hxr.out⟩
  | succ m =>
    have hm1 : ((m + 1 : Nat) : Int) - 1 = (m : Int) := by omega
    rw [hm1]
    have hlt : m < es.length := hk
    have hx1 := List.getElem?_eq_getElem hlt
    generalize es[m] = x at hx1
    obtain ⟨b1, o1, ck, rfl, _, hrk, hck⟩ := kr.out.edit m x hx1
    have hid := inverse_drop hx1
    obtain ⟨kd, way, node, old⟩ := x
    obtain ⟨A1, a1, K3, k3, L3, l3, rfl, hw, hn, ho⟩ := hrk
    replace hw := Hd.mk hw
    replace hn := Hd.mk hn
    replace ho := Hd.mk ho
    replace hid := Hd.mk hid
    obtain ⟨e0, e1, e2, e3, e4, e5, e6, e7, e8, e9, e10, e11, e12, e13⟩ := c14C hxr.out hck
    have lt1 := World.block_lt_of_cell? wr _ e0
    clear hck hx1
    generalize inverse (es.drop (m + 1)) = dn at *
    by_cases k1 : kd = 1
    · subst k1
      go_wp2_with ((with_reducible refine stop_at (.call { callee := .builtin .append, args := #[.tmp 21, .tmp 27], argTypes := #[57, 57] }) ?_))
      refine Stop.mk ?_
      have hx2 := Hd.mk ((Ext.alloc wr (.cells #[.int .i64 1, .slice A1 way.length a1, .string node.name, .string node.key, .int .i64 node.kind, .int .u64 node.num, .string node.text, .slice K3 node.kids.length k3, .string old.name, .string old.key, .int .i64 old.kind, .int .u64 old.num, .string old.text, .slice L3 old.kids.length l3] 68)).trans (Ext.alloc _ (.cells #[.int .i64 2, .slice A1 way.length a1, .string ⟨#[]⟩, .string ⟨#[]⟩, .int .i64 0, .int .u64 0, .string ⟨#[]⟩, .slice none 0 0, .string node.name, .string node.key, .int .i64 node.kind, .int .u64 node.num, .string node.text, .slice K3 node.kids.length k3] 68)))
      have hD := Hd.mk (Blk.new2 wr (.cells #[.int .i64 1, .slice A1 way.length a1, .string node.name, .string node.key, .int .i64 node.kind, .int .u64 node.num, .string node.text, .slice K3 node.kids.length k3, .string old.name, .string old.key, .int .i64 old.kind, .int .u64 old.num, .string old.text, .slice L3 old.kids.length l3] 68) #[.int .i64 2, .slice A1 way.length a1, .string ⟨#[]⟩, .string ⟨#[]⟩, .int .i64 0, .int .u64 0, .string ⟨#[]⟩, .slice none 0 0, .string node.name, .string node.key, .int .i64 node.kind, .int .u64 node.num, .string node.text, .slice K3 node.kids.length k3] 68)
      have hO2 := Hd.mk (hO.out.ext hx2.out)
      have hxr2 := Hd.mk (hxr.out.trans hx2.out)
      have hre := Hd.mk (show RE (· < w.heap.size) w (⟨2, way, zeroT, node⟩ : E) [.int .i64 2, .slice A1 way.length a1, .string ⟨#[]⟩, .string ⟨#[]⟩, .int .i64 0, .int .u64 0, .string ⟨#[]⟩, .slice none 0 0, .string node.name, .string node.key, .int .i64 node.kind, .int .u64 node.num, .string node.text, .slice K3 node.kids.length k3] from ⟨A1, a1, _, _, _, _, rfl, hw.out, RRow.nil _ _ _ _ (fun _ => rfl), hn.out⟩)
      replace hid := Hd.mk (hid.out.trans (show dn ++ inv1 _ = dn ++ [(⟨2, way, zeroT, node⟩ : E)] from rfl))
      have hw2 := hxr2.out.size
      clear hO e0 e1 e2 e3 e4 e5 e6 e7 e8 e9 e10 e11 e12 e13 lt1 hw hn ho
      generalize wr.heap.size + 1 = BD at *
      generalize (wr.alloc _).alloc _ = W2 at *
      refine wpl_append' sl57 (by omega) (by omega) (.tmp 21) (.tmp 27) 28 _ _ _ w.heap.size (.slice V dn.length vc) dn.length css.flatten rfl hO2.out.own ⟨BD, 0, none⟩ 1 1 _ rfl (by rw [hre.out.len]) (fun i u hi => by rw [addr_add, Nat.zero_add, hD.out.cell]; exact hi) hre.out.one (by omega) hw2 ?_
      intro v' w' hown hgr hat
      obtain ⟨V', vc', rfl, _⟩ := own_slice hown
      have hp := Hd.mk (OutR.push (es2 := [(⟨2, way, zeroT, node⟩ : E)]) (css2 := [[.int .i64 2, .slice A1 way.length a1, .string ⟨#[]⟩, .string ⟨#[]⟩, .int .i64 0, .int .u64 0, .string ⟨#[]⟩, .slice none 0 0, .string node.name, .string node.key, .int .i64 node.kind, .int .u64 node.num, .string node.text, .slice K3 node.kids.length k3]]) hO2.out rfl (by simp) (fun i e c he hc => by
        cases i with
        | succ i => simp at he
        | zero =>
          simp only [List.getElem?_cons_zero, Option.some.injEq] at he hc
          subst he
          subst hc
          exact (hre.out.ext hxr2.out).mono (fun b _ hb => ⟨fun hh => by have := own_base hO2.out.own b hh; have hb2 : b < w.heap.size := hb; omega, trivial⟩)) (by simpa using hown) hgr hat)
      have hxr3 := Hd.mk (Below.grown hxr2.out hgr hw2 (fun k hk => own_base hO2.out.own k hk))
      clear hown hgr hat hO2
      go_wp2_with fail
      go_roundg (m + 1)
      case measure => have := hq.out; omega
      case rel => exact ⟨m, _, V', vc', by omega, ⟨rfl⟩, by rw [hid.out, List.length_append]; rfl, by go_num, ⟨by rw [hid.out, List.length_append]; exact hp.out⟩, hxr3⟩
    · by_cases k2 : kd = 2
      · subst k2
        go_wp2_with ((with_reducible refine stop_at (.call { callee := .builtin .append, args := #[.tmp 31, .tmp 37], argTypes := #[57, 57] }) ?_))
        refine Stop.mk ?_
        have hx2 := Hd.mk ((Ext.alloc wr (.cells #[.int .i64 2, .slice A1 way.length a1, .string node.name, .string node.key, .int .i64 node.kind, .int .u64 node.num, .string node.text, .slice K3 node.kids.length k3, .string old.name, .string old.key, .int .i64 old.kind, .int .u64 old.num, .string old.text, .slice L3 old.kids.length l3] 68)).trans (Ext.alloc _ (.cells #[.int .i64 1, .slice A1 way.length a1, .string old.name, .string old.key, .int .i64 old.kind, .int .u64 old.num, .string old.text, .slice L3 old.kids.length l3, .string ⟨#[]⟩, .string ⟨#[]⟩, .int .i64 0, .int .u64 0, .string ⟨#[]⟩, .slice none 0 0] 68)))
        have hD := Hd.mk (Blk.new2 wr (.cells #[.int .i64 2, .slice A1 way.length a1, .string node.name, .string node.key, .int .i64 node.kind, .int .u64 node.num, .string node.text, .slice K3 node.kids.length k3, .string old.name, .string old.key, .int .i64 old.kind, .int .u64 old.num, .string old.text, .slice L3 old.kids.length l3] 68) #[.int .i64 1, .slice A1 way.length a1, .string old.name, .string old.key, .int .i64 old.kind, .int .u64 old.num, .string old.text, .slice L3 old.kids.length l3, .string ⟨#[]⟩, .string ⟨#[]⟩, .int .i64 0, .int .u64 0, .string ⟨#[]⟩, .slice none 0 0] 68)
        have hO2 := Hd.mk (hO.out.ext hx2.out)
        have hxr2 := Hd.mk (hxr.out.trans hx2.out)
        have hre := Hd.mk (show RE (· < w.heap.size) w (⟨1, way, old, zeroT⟩ : E) [.int .i64 1, .slice A1 way.length a1, .string old.name, .string old.key, .int .i64 old.kind, .int .u64 old.num, .string old.text, .slice L3 old.kids.length l3, .string ⟨#[]⟩, .string ⟨#[]⟩, .int .i64 0, .int .u64 0, .string ⟨#[]⟩, .slice none 0 0] from ⟨A1, a1, _, _, _, _, rfl, hw.out, ho.out, RRow.nil _ _ _ _ (fun _ => rfl)⟩)
        replace hid := Hd.mk (hid.out.trans (show dn ++ inv1 _ = dn ++ [(⟨1, way, old, zeroT⟩ : E)] from rfl))
        have hw2 := hxr2.out.size
        clear hO e0 e1 e2 e3 e4 e5 e6 e7 e8 e9 e10 e11 e12 e13 lt1 hw hn ho
        generalize wr.heap.size + 1 = BD at *
        generalize (wr.alloc _).alloc _ = W2 at *
        refine wpl_append' sl57 (by omega) (by omega) (.tmp 31) (.tmp 37) 38 _ _ _ w.heap.size (.slice V dn.length vc) dn.length css.flatten rfl hO2.out.own ⟨BD, 0, none⟩ 1 1 _ rfl (by rw [hre.out.len]) (fun i u hi => by rw [addr_add, Nat.zero_add, hD.out.cell]; exact hi) hre.out.one (by omega) hw2 ?_
        intro v' w' hown hgr hat
        obtain ⟨V', vc', rfl, _⟩ := own_slice hown
        have hp := Hd.mk (OutR.push (es2 := [(⟨1, way, old, zeroT⟩ : E)]) (css2 := [[.int .i64 1, .slice A1 way.length a1, .string old.name, .string old.key, .int .i64 old.kind, .int .u64 old.num, .string old.text, .slice L3 old.kids.length l3, .string ⟨#[]⟩, .string ⟨#[]⟩, .int .i64 0, .int .u64 0, .string ⟨#[]⟩, .slice none 0 0]]) hO2.out rfl (by simp) (fun i e c he hc => by
          cases i with
          | succ i => simp at he
          | zero =>
            simp only [List.getElem?_cons_zero, Option.some.injEq] at he hc
            subst he
            subst hc
            exact (hre.out.ext hxr2.out).mono (fun b _ hb => ⟨fun hh => by have := own_base hO2.out.own b hh; have hb2 : b < w.heap.size := hb; omega, trivial⟩)) (by simpa using hown) hgr hat)
        have hxr3 := Hd.mk (Below.grown hxr2.out hgr hw2 (fun k hk => own_base hO2.out.own k hk))
        clear hown hgr hat hO2
        go_wp2_with fail
        go_roundg (m + 1)
        case measure => have := hq.out; omega
        case rel => exact ⟨m, _, V', vc', by omega, ⟨rfl⟩, by rw [hid.out, List.length_append]; rfl, by go_num, ⟨by rw [hid.out, List.length_append]; exact hp.out⟩, hxr3⟩
      · by_cases kk3 : kd = 3
        · subst kk3
          go_wp2_with ((with_reducible refine stop_at (.call { callee := .builtin .append, args := #[.tmp 41, .tmp 49], argTypes := #[57, 57] }) ?_))
          refine Stop.mk ?_
          have hx2 := Hd.mk ((Ext.alloc wr (.cells #[.int .i64 3, .slice A1 way.length a1, .string node.name, .string node.key, .int .i64 node.kind, .int .u64 node.num, .string node.text, .slice K3 node.kids.length k3, .string old.name, .string old.key, .int .i64 old.kind, .int .u64 old.num, .string old.text, .slice L3 old.kids.length l3] 68)).trans (Ext.alloc _ (.cells #[.int .i64 3, .slice A1 way.length a1, .string old.name, .string old.key, .int .i64 old.kind, .int .u64 old.num, .string old.text, .slice L3 old.kids.length l3, .string node.name, .string node.key, .int .i64 node.kind, .int .u64 node.num, .string node.text, .slice K3 node.kids.length k3] 68)))
          have hD := Hd.mk (Blk.new2 wr (.cells #[.int .i64 3, .slice A1 way.length a1, .string node.name, .string node.key, .int .i64 node.kind, .int .u64 node.num, .string node.text, .slice K3 node.kids.length k3, .string old.name, .string old.key, .int .i64 old.kind, .int .u64 old.num, .string old.text, .slice L3 old.kids.length l3] 68) #[.int .i64 3, .slice A1 way.length a1, .string old.name, .string old.key, .int .i64 old.kind, .int .u64 old.num, .string old.text, .slice L3 old.kids.length l3, .string node.name, .string node.key, .int .i64 node.kind, .int .u64 node.num, .string node.text, .slice K3 node.kids.length k3] 68)
          have hO2 := Hd.mk (hO.out.ext hx2.out)
          have hxr2 := Hd.mk (hxr.out.trans hx2.out)
          have hre := Hd.mk (show RE (· < w.heap.size) w (⟨3, way, old, node⟩ : E) [.int .i64 3, .slice A1 way.length a1, .string old.name, .string old.key, .int .i64 old.kind, .int .u64 old.num, .string old.text, .slice L3 old.kids.length l3, .string node.name, .string node.key, .int .i64 node.kind, .int .u64 node.num, .string node.text, .slice K3 node.kids.length k3] from ⟨A1, a1, _, _, _, _, rfl, hw.out, ho.out, hn.out⟩)
          replace hid := Hd.mk (hid.out.trans (show dn ++ inv1 _ = dn ++ [(⟨3, way, old, node⟩ : E)] from rfl))
          have hw2 := hxr2.out.size
          clear hO e0 e1 e2 e3 e4 e5 e6 e7 e8 e9 e10 e11 e12 e13 lt1 hw hn ho
          generalize wr.heap.size + 1 = BD at *
          generalize (wr.alloc _).alloc _ = W2 at *
          refine wpl_append' sl57 (by omega) (by omega) (.tmp 41) (.tmp 49) 50 _ _ _ w.heap.size (.slice V dn.length vc) dn.length css.flatten rfl hO2.out.own ⟨BD, 0, none⟩ 1 1 _ rfl (by rw [hre.out.len]) (fun i u hi => by rw [addr_add, Nat.zero_add, hD.out.cell]; exact hi) hre.out.one (by omega) hw2 ?_
          intro v' w' hown hgr hat
          obtain ⟨V', vc', rfl, _⟩ := own_slice hown
          have hp := Hd.mk (OutR.push (es2 := [(⟨3, way, old, node⟩ : E)]) (css2 := [[.int .i64 3, .slice A1 way.length a1, .string old.name, .string old.key, .int .i64 old.kind, .int .u64 old.num, .string old.text, .slice L3 old.kids.length l3, .string node.name, .string node.key, .int .i64 node.kind, .int .u64 node.num, .string node.text, .slice K3 node.kids.length k3]]) hO2.out rfl (by simp) (fun i e c he hc => by
            cases i with
            | succ i => simp at he
            | zero =>
              simp only [List.getElem?_cons_zero, Option.some.injEq] at he hc
              subst he
              subst hc
              exact (hre.out.ext hxr2.out).mono (fun b _ hb => ⟨fun hh => by have := own_base hO2.out.own b hh; have hb2 : b < w.heap.size := hb; omega, trivial⟩)) (by simpa using hown) hgr hat)
          have hxr3 := Hd.mk (Below.grown hxr2.out hgr hw2 (fun k hk => own_base hO2.out.own k hk))
          clear hown hgr hat hO2
          go_wp2_with fail
          go_roundg (m + 1)
          case measure => have := hq.out; omega
          case rel => exact ⟨m, _, V', vc', by omega, ⟨rfl⟩, by rw [hid.out, List.length_append]; rfl, by go_num, ⟨by rw [hid.out, List.length_append]; exact hp.out⟩, hxr3⟩
        · have hx2 := Hd.mk (Ext.alloc wr (.cells #[.int .i64 kd, .slice A1 way.length a1, .string node.name, .string node.key, .int .i64 node.kind, .int .u64 node.num, .string node.text, .slice K3 node.kids.length k3, .string old.name, .string old.key, .int .i64 old.kind, .int .u64 old.num, .string old.text, .slice L3 old.kids.length l3] 68))
          have hO2 := Hd.mk (hO.out.ext hx2.out)
          have hxr2 := Hd.mk (hxr.out.trans hx2.out)
          replace hid := Hd.mk (hid.out.trans (show dn ++ inv1 _ = dn by simp [inv1, k1, k2, kk3]))
          clear hO
          go_wp2_with fail
          go_roundg (m + 1)
          case measure => have := hq.out; omega
          case rel => exact ⟨m, css, V, vc, by omega, ⟨rfl⟩, by rw [hid.out], by go_num, ⟨by rw [hid.out]; exact hO2.out⟩, hxr2⟩
end Go.Proofs.Ytgkgedjmnbjalaa

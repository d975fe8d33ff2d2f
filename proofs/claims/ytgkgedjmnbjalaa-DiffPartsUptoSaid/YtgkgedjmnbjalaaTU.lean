/- Same of the program's edits.
   Conditions: none. -/
import Derived.Test.YtgkgedjmnbjalaaTS
set_option linter.unusedSimpArgs false
namespace Go.Proofs.Ytgkgedjmnbjalaa
open Go.RowKit Go.Sort

set_option maxRecDepth 100000 in
set_option maxHeartbeats 4000000 in
theorem steps_equal (l m : List Step) (S : Nat → Prop) (w : World) (A1 A2 : Option Addr) (c1 c2 : Nat) (h1 : WRow S w A1 l c1) (h2 : WRow S w A2 m c2) :
    Calls Try.prog 108 #[.slice A1 l.length c1, .slice A2 m.length c2] w fun e w' => e = .returned (.bool (decide (l = m))) ∧ Ext w w' := by
  have kr1 := Hd.mk h1
  have kr2 := Hd.mk h2
  have hl1 := h1.len
  have hl2 := h2.len
  clear h1 h2
  generalize hr : decide (l = m) = r
  by_cases h6 : l.length = m.length
  · rw [h6]
    replace h6 := Hd.mk h6
    clear hl1
    replace hr := Hd.mk (show r = decide (l.drop 0 = m.drop 0) from hr.symm)
    go_enter Try.func108, Try.ntmps108
    go_wp2_with fail
    go_loopg [13] (m.length + 1) (fun q i wr => ∃ j : Nat, j ≤ m.length ∧ Hd (q = m.length + 1 - j) ∧ i = .int .i64 j ∧ Hd (r = decide (l.drop j = m.drop j)) ∧ Hd (Ext w wr))
    case atStart => exact ⟨0, by omega, ⟨by omega⟩, rfl, hr, ⟨Ext.refl _⟩⟩
    case round =>
    obtain ⟨j, hj, hq, rfl, hI, hxr⟩ := hrel
    by_cases hlt : j < m.length
    · have hlt1 : j < l.length := by have := h6.out; omega
      have hx1 := List.getElem?_eq_getElem hlt1
      have hx2 := List.getElem?_eq_getElem hlt
      have hd1 := List.drop_eq_getElem_cons hlt1
      have hd2 := List.drop_eq_getElem_cons hlt
      generalize l[j] = x at hx1 hd1
      generalize m[j] = y at hx2 hd2
      have hdrop := Hd.mk (show decide (l.drop j = m.drop j) = (decide (x = y) && decide (l.drop (j + 1) = m.drop (j + 1))) by rw [hd1, hd2]; simp)
      obtain ⟨b1, o1, rfl, _, hck⟩ := kr1.out.at hx1
      obtain ⟨b2, o2, rfl, _, hdk⟩ := kr2.out.at hx2
      have kcx := Hd.mk (fun (q : Nat) u hq => Ext.cell hxr.out (hck q u hq))
      have kcy := Hd.mk (fun (q : Nat) u hq => Ext.cell hxr.out (hdk q u hq))
      clear hck hdk hx1 hx2 hd1 hd2
      go_wp2_with fail
      by_cases hxy : x = y
      · subst hxy
        refine Flow.wp_region_flow_l (fun qq => match qq with
          | 16 => SP.eq (.slice (some ⟨b1, o1, none⟩) m.length c1)
          | 17 => SP.eq (.int .i64 (j : Nat))
          | 18 => SP.eq (.pointer (some ⟨b1, o1 + j * 2, none⟩))
          | 19 => SP.eq (.agg #[.string x.1, .string x.2])
          | 20 => SP.eq (.slice (some ⟨b2, o2, none⟩) m.length c2)
          | 21 => SP.eq (.int .i64 (j : Nat))
          | 22 => SP.eq (.pointer (some ⟨b2, o2 + j * 2, none⟩))
          | 23 => SP.eq (.agg #[.string x.1, .string x.2])
          | 24 => SP.eq (.bool false)
          | _ => SP.any) 9 (by kernel_rfl) 26 rfl (by kernel_rfl) ?_ ?_
        · skip
          refine ⟨?_, ?_, ?_, ?_, ?_, ?_, ?_, ?_, ?_, trivial⟩
          · intro act W2 hk
            refine Flow.does_intro rfl (fun Kq hK => ?_)
            have e0 : act.tmps[0]?.getD undef = .slice (some ⟨b1, o1, none⟩) m.length c1 := hk.o 0 (by kernel_rfl)
            clear hk
            go_simp
            exact hK _ _ (Ext.refl _) (fun d hd => by cases hd; rfl)
          · intro act W2 hk
            refine Flow.does_intro rfl (fun Kq hK => ?_)
            have e5 : act.tmps[5]?.getD undef = .int .i64 (j : Nat) := hk.o 5 (by kernel_rfl)
            clear hk
            go_simp
            exact hK _ _ (Ext.refl _) (fun d hd => by cases hd; rfl)
          · intro act W2 hk
            refine Flow.does_intro rfl (fun Kq hK => ?_)
            have e16 : act.tmps[16]?.getD undef = .slice (some ⟨b1, o1, none⟩) m.length c1 := hk.v 16 (by kernel_rfl)
            have e17 : act.tmps[17]?.getD undef = .int .i64 (j : Nat) := hk.v 17 (by kernel_rfl)
            clear hk
            go_simp
            exact hK _ _ (Ext.refl _) (fun d hd => by cases hd; rfl)
          · intro act W2 hk
            refine Flow.does_intro rfl (fun Kq hK => ?_)
            have e18 : act.tmps[18]?.getD undef = .pointer (some ⟨b1, o1 + j * 2, none⟩) := hk.v 18 (by kernel_rfl)
            have g0 := Ext.cell ((Ext.drew wr).trans hk.ext) ((kcx.out) 0 _ rfl)
            rw [Nat.add_zero] at g0
            have g1 := Ext.cell ((Ext.drew wr).trans hk.ext) ((kcx.out) 1 _ rfl)
            clear hk
            go_simp
            exact hK _ _ (Ext.refl _) (fun d hd => by cases hd; rfl)
          · intro act W2 hk
            refine Flow.does_intro rfl (fun Kq hK => ?_)
            have e1 : act.tmps[1]?.getD undef = .slice (some ⟨b2, o2, none⟩) m.length c2 := hk.o 1 (by kernel_rfl)
            clear hk
            go_simp
            exact hK _ _ (Ext.refl _) (fun d hd => by cases hd; rfl)
          · intro act W2 hk
            refine Flow.does_intro rfl (fun Kq hK => ?_)
            have e5 : act.tmps[5]?.getD undef = .int .i64 (j : Nat) := hk.o 5 (by kernel_rfl)
            clear hk
            go_simp
            exact hK _ _ (Ext.refl _) (fun d hd => by cases hd; rfl)
          · intro act W2 hk
            refine Flow.does_intro rfl (fun Kq hK => ?_)
            have e20 : act.tmps[20]?.getD undef = .slice (some ⟨b2, o2, none⟩) m.length c2 := hk.v 20 (by kernel_rfl)
            have e21 : act.tmps[21]?.getD undef = .int .i64 (j : Nat) := hk.v 21 (by kernel_rfl)
            clear hk
            go_simp
            exact hK _ _ (Ext.refl _) (fun d hd => by cases hd; rfl)
          · intro act W2 hk
            refine Flow.does_intro rfl (fun Kq hK => ?_)
            have e22 : act.tmps[22]?.getD undef = .pointer (some ⟨b2, o2 + j * 2, none⟩) := hk.v 22 (by kernel_rfl)
            have g0 := Ext.cell ((Ext.drew wr).trans hk.ext) ((kcy.out) 0 _ rfl)
            rw [Nat.add_zero] at g0
            have g1 := Ext.cell ((Ext.drew wr).trans hk.ext) ((kcy.out) 1 _ rfl)
            clear hk
            go_simp
            exact hK _ _ (Ext.refl _) (fun d hd => by cases hd; rfl)
          · intro act W2 hk
            refine Flow.does_intro rfl (fun Kq hK => ?_)
            have e19 : act.tmps[19]?.getD undef = .agg #[.string x.1, .string x.2] := hk.v 19 (by kernel_rfl)
            have e23 : act.tmps[23]?.getD undef = .agg #[.string x.1, .string x.2] := hk.v 23 (by kernel_rfl)
            clear hk
            go_simp
            exact hK _ _ (Ext.refl _) (fun d hd => by cases hd; rfl)
        · intro act W2 he
          have hxW2 := Hd.mk ((Ext.drew wr).trans he.ext)
          obtain ⟨us, hA, hF⟩ := he.out [16, 17, 18, 19, 20, 21, 22, 23, 24] (by kernel_rfl)
          simp only [Flow.fillL, List.contains_cons, List.contains_nil, Nat.reduceBEq, Bool.or_false, Bool.false_or, Bool.or_true, Bool.true_or, ↓reduceIte, Nat.reduceAdd, Bool.false_eq_true] at hA
          subst hA
          have f24 : us 24 = .bool false := hF 24 (by simp)
          clear hF he
          rw [f24]
          clear f24
          refine (show wpList _ _ _ [] _ _ from ?_)
          go_wp2_with fail
          go_roundg (m.length + 1 - (j + 1))
          case measure => have := hq.out; omega
          case rel => exact ⟨j + 1, by omega, ⟨rfl⟩, by go_num, ⟨by rw [hI.out, hdrop.out]; simp⟩, ⟨hxr.out.trans hxW2.out⟩⟩
      · have hr0 : r = false := by rw [hI.out, hdrop.out, decide_eq_false hxy]; rfl
        subst hr0
        have hv := Hd.mk (not2 (n := x.1) (n' := y.1) (k := x.2) (k' := y.2) (fun h => hxy (Prod.ext h.1 h.2)))
        clear hxy
        refine Flow.wp_region_flow_l (fun qq => match qq with
          | 16 => SP.eq (.slice (some ⟨b1, o1, none⟩) m.length c1)
          | 17 => SP.eq (.int .i64 (j : Nat))
          | 18 => SP.eq (.pointer (some ⟨b1, o1 + j * 2, none⟩))
          | 19 => SP.eq (.agg #[.string x.1, .string x.2])
          | 20 => SP.eq (.slice (some ⟨b2, o2, none⟩) m.length c2)
          | 21 => SP.eq (.int .i64 (j : Nat))
          | 22 => SP.eq (.pointer (some ⟨b2, o2 + j * 2, none⟩))
          | 23 => SP.eq (.agg #[.string y.1, .string y.2])
          | 24 => SP.eq (.bool true)
          | _ => SP.any) 9 (by kernel_rfl) 26 rfl (by kernel_rfl) ?_ ?_
        · skip
          refine ⟨?_, ?_, ?_, ?_, ?_, ?_, ?_, ?_, ?_, trivial⟩
          · intro act W2 hk
            refine Flow.does_intro rfl (fun Kq hK => ?_)
            have e0 : act.tmps[0]?.getD undef = .slice (some ⟨b1, o1, none⟩) m.length c1 := hk.o 0 (by kernel_rfl)
            clear hk
            go_simp
            exact hK _ _ (Ext.refl _) (fun d hd => by cases hd; rfl)
          · intro act W2 hk
            refine Flow.does_intro rfl (fun Kq hK => ?_)
            have e5 : act.tmps[5]?.getD undef = .int .i64 (j : Nat) := hk.o 5 (by kernel_rfl)
            clear hk
            go_simp
            exact hK _ _ (Ext.refl _) (fun d hd => by cases hd; rfl)
          · intro act W2 hk
            refine Flow.does_intro rfl (fun Kq hK => ?_)
            have e16 : act.tmps[16]?.getD undef = .slice (some ⟨b1, o1, none⟩) m.length c1 := hk.v 16 (by kernel_rfl)
            have e17 : act.tmps[17]?.getD undef = .int .i64 (j : Nat) := hk.v 17 (by kernel_rfl)
            clear hk
            go_simp
            exact hK _ _ (Ext.refl _) (fun d hd => by cases hd; rfl)
          · intro act W2 hk
            refine Flow.does_intro rfl (fun Kq hK => ?_)
            have e18 : act.tmps[18]?.getD undef = .pointer (some ⟨b1, o1 + j * 2, none⟩) := hk.v 18 (by kernel_rfl)
            have g0 := Ext.cell ((Ext.drew wr).trans hk.ext) ((kcx.out) 0 _ rfl)
            rw [Nat.add_zero] at g0
            have g1 := Ext.cell ((Ext.drew wr).trans hk.ext) ((kcx.out) 1 _ rfl)
            clear hk
            go_simp
            exact hK _ _ (Ext.refl _) (fun d hd => by cases hd; rfl)
          · intro act W2 hk
            refine Flow.does_intro rfl (fun Kq hK => ?_)
            have e1 : act.tmps[1]?.getD undef = .slice (some ⟨b2, o2, none⟩) m.length c2 := hk.o 1 (by kernel_rfl)
            clear hk
            go_simp
            exact hK _ _ (Ext.refl _) (fun d hd => by cases hd; rfl)
          · intro act W2 hk
            refine Flow.does_intro rfl (fun Kq hK => ?_)
            have e5 : act.tmps[5]?.getD undef = .int .i64 (j : Nat) := hk.o 5 (by kernel_rfl)
            clear hk
            go_simp
            exact hK _ _ (Ext.refl _) (fun d hd => by cases hd; rfl)
          · intro act W2 hk
            refine Flow.does_intro rfl (fun Kq hK => ?_)
            have e20 : act.tmps[20]?.getD undef = .slice (some ⟨b2, o2, none⟩) m.length c2 := hk.v 20 (by kernel_rfl)
            have e21 : act.tmps[21]?.getD undef = .int .i64 (j : Nat) := hk.v 21 (by kernel_rfl)
            clear hk
            go_simp
            exact hK _ _ (Ext.refl _) (fun d hd => by cases hd; rfl)
          · intro act W2 hk
            refine Flow.does_intro rfl (fun Kq hK => ?_)
            have e22 : act.tmps[22]?.getD undef = .pointer (some ⟨b2, o2 + j * 2, none⟩) := hk.v 22 (by kernel_rfl)
            have g0 := Ext.cell ((Ext.drew wr).trans hk.ext) ((kcy.out) 0 _ rfl)
            rw [Nat.add_zero] at g0
            have g1 := Ext.cell ((Ext.drew wr).trans hk.ext) ((kcy.out) 1 _ rfl)
            clear hk
            go_simp
            exact hK _ _ (Ext.refl _) (fun d hd => by cases hd; rfl)
          · intro act W2 hk
            refine Flow.does_intro rfl (fun Kq hK => ?_)
            have e19 : act.tmps[19]?.getD undef = .agg #[.string x.1, .string x.2] := hk.v 19 (by kernel_rfl)
            have e23 : act.tmps[23]?.getD undef = .agg #[.string y.1, .string y.2] := hk.v 23 (by kernel_rfl)
            clear hk
            skip
            rcases hv.out with q | ⟨q1, q⟩
            all_goals go_simp
            all_goals exact hK _ _ (Ext.refl _) (fun d hd => by cases hd; rfl)
        · intro act W2 he
          have hxW2 := Hd.mk ((Ext.drew wr).trans he.ext)
          obtain ⟨us, hA, hF⟩ := he.out [16, 17, 18, 19, 20, 21, 22, 23, 24] (by kernel_rfl)
          simp only [Flow.fillL, List.contains_cons, List.contains_nil, Nat.reduceBEq, Bool.or_false, Bool.false_or, Bool.or_true, Bool.true_or, ↓reduceIte, Nat.reduceAdd, Bool.false_eq_true] at hA
          subst hA
          have f24 : us 24 = .bool true := hF 24 (by simp)
          clear hF he
          rw [f24]
          clear f24
          refine (show wpList _ _ _ [] _ _ from ?_)
          go_wp2_with fail
          go_ret
          exact ⟨rfl, hxr.out.trans hxW2.out⟩
    · have hjl : j = m.length := by omega
      subst hjl
      have hr0 : r = true := by rw [hI.out, ← h6.out, List.drop_length, h6.out, List.drop_length]; rfl
      subst hr0
      go_wp2_with fail
      go_ret
      exact ⟨rfl, hxr.out⟩
  · have hr0 : r = false := by rw [← hr]; exact decide_eq_false (fun h => h6 (by rw [h]))
    subst hr0
    have h6' : ((l.length : Int) != (m.length : Int)) = true := by rw [bne_iff_ne]; omega
    clear hr
    go_enter Try.func108, Try.ntmps108
    go_wp2_with fail
    go_ret
    exact ⟨rfl, Ext.refl _⟩

/-- Two edits are the same. -/
def sameE (e f : E) : Bool := decide (e.kind = f.kind) && (decide (e.way = f.way) && (sameT e.node f.node && sameT e.old f.old))
def sameEL : List E → List E → Bool
  | [], [] => true
  | e :: l, f :: m => sameE e f && sameEL l m
  | _, _ => false
theorem sameE_refl (e : E) : sameE e e = true := by simp [sameE, sameT_refl]
theorem sameEL_refl : ∀ l : List E, sameEL l l = true
  | [] => rfl
  | e :: l => by rw [sameEL, sameE_refl, sameEL_refl l]; rfl
theorem sameEL_len : ∀ (l m : List E), sameEL l m = true → l.length = m.length
  | [], [], _ => rfl
  | x :: l, y :: m, h => by
    rw [sameEL, Bool.and_eq_true] at h
    simp [sameEL_len l m h.2]
  | [], _ :: _, h => by simp [sameEL] at h
  | _ :: _, [], h => by simp [sameEL] at h
theorem sameEL_drop {l m : List E} {j : Nat} {x y : E} (hx : l[j]? = some x) (hy : m[j]? = some y) : sameEL (l.drop j) (m.drop j) = (sameE x y && sameEL (l.drop (j + 1)) (m.drop (j + 1))) := by
  obtain ⟨h1, h2⟩ := List.getElem?_eq_some_iff.1 hx
  obtain ⟨h3, h4⟩ := List.getElem?_eq_some_iff.1 hy
  rw [List.drop_eq_getElem_cons h1, List.drop_eq_getElem_cons h3, sameEL, h2, h4]

set_option maxRecDepth 100000 in
set_option maxHeartbeats 4000000 in
theorem diff_same1 (e f : E) (S : Nat → Prop) (w : World) (c d : List Value) (he : RE S w e c) (hf : RE S w f d) :
    Calls Try.prog 107 #[.agg c.toArray, .agg d.toArray] w fun x w' => x = .returned (.bool (sameE e f)) ∧ Ext w w' := by
  obtain ⟨A1, a1, K1, c1, L1, d1, rfl, hw1, hn1, ho1⟩ := he
  obtain ⟨A2, a2, K2, c2, L2, d2, rfl, hw2, hn2, ho2⟩ := hf
  have hst := Hd.mk (fun W (h : Ext w W) => steps_equal e.way f.way _ W A1 A2 a1 a2 (hw1.ext h) (hw2.ext h))
  have hsn := Hd.mk (fun W (h : Ext w W) => tree_same e.node.deep e.node f.node _ W _ _ (Nat.le_refl _) ((RT.of_row hn1).ext h) ((RT.of_row hn2).ext h))
  have hso := Hd.mk (fun W (h : Ext w W) => tree_same e.old.deep e.old f.old _ W _ _ (Nat.le_refl _) ((RT.of_row ho1).ext h) ((RT.of_row ho2).ext h))
  have hs : sameE e f = (decide (e.kind = f.kind) && (decide (e.way = f.way) && (sameT e.node f.node && sameT e.old f.old))) := rfl
  generalize sameE e f = r at *
  simp only [cT, List.cons_append, List.nil_append] at hsn hso ⊢
  generalize e.kind = k1 at *
  generalize f.kind = k2 at *
  clear hw1 hw2 hn1 hn2 ho1 ho2
  by_cases hk : k1 = k2
  · subst hk
    replace hs := Hd.mk hs
    go_enter Try.func107, Try.ntmps107
    go_wp2_with fail
    have kx := Hd.mk ((Ext.alloc w (.cells #[.int .i64 k1, .slice A1 e.way.length a1, .string e.node.name, .string e.node.key, .int .i64 e.node.kind, .int .u64 e.node.num, .string e.node.text, .slice K1 e.node.kids.length c1, .string e.old.name, .string e.old.key, .int .i64 e.old.kind, .int .u64 e.old.num, .string e.old.text, .slice L1 e.old.kids.length d1] 68)).trans (Ext.alloc _ (.cells #[.int .i64 k1, .slice A2 f.way.length a2, .string f.node.name, .string f.node.key, .int .i64 f.node.kind, .int .u64 f.node.num, .string f.node.text, .slice K2 f.node.kids.length c2, .string f.old.name, .string f.old.key, .int .i64 f.old.kind, .int .u64 f.old.num, .string f.old.text, .slice L2 f.old.kids.length d2] 68)))
    have kA := Hd.mk ((Blk.new w #[.int .i64 k1, .slice A1 e.way.length a1, .string e.node.name, .string e.node.key, .int .i64 e.node.kind, .int .u64 e.node.num, .string e.node.text, .slice K1 e.node.kids.length c1, .string e.old.name, .string e.old.key, .int .i64 e.old.kind, .int .u64 e.old.num, .string e.old.text, .slice L1 e.old.kids.length d1] 68).alloc (.cells #[.int .i64 k1, .slice A2 f.way.length a2, .string f.node.name, .string f.node.key, .int .i64 f.node.kind, .int .u64 f.node.num, .string f.node.text, .slice K2 f.node.kids.length c2, .string f.old.name, .string f.old.key, .int .i64 f.old.kind, .int .u64 f.old.num, .string f.old.text, .slice L2 f.old.kids.length d2] 68))
    have kB := Hd.mk (Blk.new2 w (.cells #[.int .i64 k1, .slice A1 e.way.length a1, .string e.node.name, .string e.node.key, .int .i64 e.node.kind, .int .u64 e.node.num, .string e.node.text, .slice K1 e.node.kids.length c1, .string e.old.name, .string e.old.key, .int .i64 e.old.kind, .int .u64 e.old.num, .string e.old.text, .slice L1 e.old.kids.length d1] 68) #[.int .i64 k1, .slice A2 f.way.length a2, .string f.node.name, .string f.node.key, .int .i64 f.node.kind, .int .u64 f.node.num, .string f.node.text, .slice K2 f.node.kids.length c2, .string f.old.name, .string f.old.key, .int .i64 f.old.kind, .int .u64 f.old.num, .string f.old.text, .slice L2 f.old.kids.length d2] 68)
    generalize w.heap.size = pA at *
    generalize (w.alloc _).alloc _ = W at *
    have gA := kA.out.cell
    have gB := kB.out.cell
    refine Calls.mono (hst.out W kx.out) ?_
    rintro x w1 ⟨rfl, hx⟩
    have kx1 := Hd.mk (kx.out.trans hx)
    have kA1 := Hd.mk (kA.out.ext hx)
    have kB1 := Hd.mk (kB.out.ext hx)
    clear hx kx kA kB hst gA gB
    have gA := kA1.out.cell
    have gB := kB1.out.cell
    by_cases hw : e.way = f.way
    · rw [decide_eq_true hw]
      replace hw := Hd.mk hw
      go_wp2_with fail
      refine Calls.mono (hsn.out w1 kx1.out) ?_
      rintro x w2 ⟨rfl, hx⟩
      have kx2 := Hd.mk (kx1.out.trans hx)
      have kA2 := Hd.mk (kA1.out.ext hx)
      have kB2 := Hd.mk (kB1.out.ext hx)
      clear hx kx1 kA1 kB1 hsn gA gB
      have gA := kA2.out.cell
      have gB := kB2.out.cell
      cases hn : sameT e.node f.node with
      | false =>
        have h0 : r = false := by rw [hs.out, hn]; simp
        subst h0
        go_wp2_with fail
        go_ret
        exact ⟨rfl, kx2.out⟩
      | true =>
        have h0 : r = sameT e.old f.old := by rw [hs.out, hn, decide_eq_true hw.out]; simp
        subst h0
        go_wp2_with fail
        refine Calls.mono (hso.out w2 kx2.out) ?_
        rintro x w3 ⟨rfl, hx⟩
        have kx3 := Hd.mk (kx2.out.trans hx)
        clear hx kx2 kA2 kB2 hso gA gB
        go_wp2_with fail
        go_ret
        exact ⟨rfl, kx3.out⟩
    · have h0 : r = false := by rw [hs.out, decide_eq_false hw]; simp
      subst h0
      rw [decide_eq_false hw]
      clear hw
      go_wp2_with fail
      go_ret
      exact ⟨rfl, kx1.out⟩
  · have h0 : r = false := by rw [hs, decide_eq_false hk]; rfl
    subst h0
    clear hs
    go_enter Try.func107, Try.ntmps107
    go_wp2_with fail
    go_ret
    exact ⟨rfl, (Ext.alloc _ _).trans (Ext.alloc _ _)⟩
end Go.Proofs.Ytgkgedjmnbjalaa

/- Under: of two ways; how many edits are at the end of a way, or below.
   Conditions: none. -/
import Derived.Test.YtgkgedjmnbjalaaTV
import Derived.Laws.Cover1
set_option linter.unusedSimpArgs false
namespace Go.Proofs.Ytgkgedjmnbjalaa
open Go.RowKit Go.Sort

/-- The first way begins with the second one. -/
def underW (l m : List Step) : Bool := decide (l.take m.length = m)
def underJ (l m : List Step) (j : Nat) : Bool := decide ((l.drop j).take (m.length - j) = m.drop j)
theorem underJ_zero (l m : List Step) : underJ l m 0 = underW l m := rfl
theorem underJ_short {l m : List Step} {j : Nat} (hj : j < m.length) (hl : l.length ≤ j) : underJ l m j = false := by
  unfold underJ
  rw [List.drop_of_length_le hl, List.take_nil]
  exact decide_eq_false fun h => by have := congrArg List.length h; simp at this; omega
theorem underJ_step {l m : List Step} {j : Nat} {x y : Step} (hx : l[j]? = some x) (hy : m[j]? = some y) : underJ l m j = (decide (x = y) && underJ l m (j + 1)) := by
  obtain ⟨h1, h2⟩ := List.getElem?_eq_some_iff.1 hx
  obtain ⟨h3, h4⟩ := List.getElem?_eq_some_iff.1 hy
  unfold underJ
  rw [List.drop_eq_getElem_cons h1, List.drop_eq_getElem_cons h3, h2, h4, show m.length - j = (m.length - (j + 1)) + 1 by omega, List.take_succ_cons]
  by_cases hxy : x = y
  · subst hxy; simp
  · simp [hxy]
theorem underJ_end (l m : List Step) : underJ l m m.length = true := by
  unfold underJ
  rw [Nat.sub_self, List.take_zero, List.drop_length]
  exact decide_eq_true rfl

set_option maxRecDepth 100000 in
set_option maxHeartbeats 4000000 in
theorem path_under (l m : List Step) (S S' : Nat → Prop) (w : World) (A1 A2 : Option Addr) (c1 c2 : Nat) (h1 : WRow S w A1 l c1) (h2 : WRow S' w A2 m c2) :
    Calls Try.prog 104 #[.slice A1 l.length c1, .slice A2 m.length c2] w fun e w' => e = .returned (.bool (underW l m)) ∧ Ext w w' := by
  have kr1 := Hd.mk h1
  have kr2 := Hd.mk h2
  have hl1 := h1.len
  have hl2 := h2.len
  clear h1 h2
  generalize hr : underW l m = r
  replace hr := Hd.mk (show r = underJ l m 0 from hr.symm)
  go_enter Try.func104, Try.ntmps104
  go_wp2_with fail
  go_loopg [9] (m.length + 1) (fun q i wr => ∃ j : Nat, j ≤ m.length ∧ Hd (q = m.length + 1 - j) ∧ i = .int .i64 j ∧ Hd (r = underJ l m j) ∧ Hd (Ext w wr))
  case atStart => exact ⟨0, by omega, ⟨by omega⟩, rfl, hr, ⟨Ext.refl _⟩⟩
  case round =>
  obtain ⟨j, hj, hq, rfl, hI, hxr⟩ := hrel
  by_cases hlt : j < m.length
  · have hy1 := List.getElem?_eq_getElem hlt
    generalize m[j] = y at hy1
    replace hy1 := Hd.mk hy1
    obtain ⟨b2, o2, rfl, _, hdk⟩ := kr2.out.at hy1.out
    obtain ⟨f0, f1⟩ := twoC hxr.out hdk
    clear hdk
    have hlt0 := hlt
    go_wp2_with fail
    have kB := Hd.mk (Blk.new wr #[.string y.1, .string y.2] 65)
    have hxb := Hd.mk (hxr.out.trans (Ext.alloc wr (.cells #[.string y.1, .string y.2] 65)))
    generalize wr.heap.size = pB at *
    generalize wr.alloc _ = W at *
    clear f0 f1
    by_cases hjl : l.length ≤ j
    · have hr0 : r = false := by rw [hI.out, underJ_short hlt hjl]
      subst hr0
      refine Flow.wp_region_flow_l (fun qq => match qq with
        | 14 => SP.eq (.int .i64 (j : Nat))
        | 15 => SP.eq (.slice A1 l.length c1)
        | 16 => SP.eq (.int .i64 (l.length : Nat))
        | 17 => SP.eq (.bool true)
        | 18 => SP.eq (.bool true)
        | 19 => SP.eq (undef)
        | 20 => SP.eq (undef)
        | 21 => SP.eq (undef)
        | 22 => SP.eq (undef)
        | 23 => SP.eq (undef)
        | 24 => SP.eq (undef)
        | 25 => SP.eq (.bool true)
        | _ => SP.any) 12 (by kernel_rfl) 27 rfl (by kernel_rfl) ?_ ?_
      · skip
        refine ⟨?_, ?_, ?_, ?_, ?_, ?_, ?_, ?_, ?_, ?_, ?_, ?_, trivial⟩
        · intro act W2 hk
          refine Flow.does_intro rfl (fun Kq hK => ?_)
          have e5 : act.tmps[5]?.getD undef = .int .i64 (j : Nat) := hk.o 5 (by kernel_rfl)
          clear hk
          go_simp
          exact hK _ _ (Ext.refl _) (fun d hd => by cases hd; rfl)
        · intro act W2 hk
          refine Flow.does_intro rfl (fun Kq hK => ?_)
          have e0 : act.tmps[0]?.getD undef = .slice A1 l.length c1 := hk.o 0 (by kernel_rfl)
          clear hk
          go_simp
          exact hK _ _ (Ext.refl _) (fun d hd => by cases hd; rfl)
        · intro act W2 hk
          refine Flow.does_intro rfl (fun Kq hK => ?_)
          have e15 : act.tmps[15]?.getD undef = .slice A1 l.length c1 := hk.v 15 (by kernel_rfl)
          clear hk
          go_simp
          exact hK _ _ (Ext.refl _) (fun d hd => by cases hd; rfl)
        · intro act W2 hk
          refine Flow.does_intro rfl (fun Kq hK => ?_)
          have e14 : act.tmps[14]?.getD undef = .int .i64 (j : Nat) := hk.v 14 (by kernel_rfl)
          have e16 : act.tmps[16]?.getD undef = .int .i64 (l.length : Nat) := hk.v 16 (by kernel_rfl)
          clear hk
          go_simp
          exact hK _ _ (Ext.refl _) (fun d hd => by cases hd; first | rfl | (simp [SP.eq]; omega))
        · intro act W2 hk
          refine Flow.does_intro rfl (fun Kq hK => ?_)
          have e17 : act.tmps[17]?.getD undef = .bool true := hk.v 17 (by kernel_rfl)
          clear hk
          go_simp
          exact hK _ _ (Ext.refl _) (fun d hd => by cases hd; rfl)
        · intro act W2 hk
          have eg : act.tmps[18]?.getD undef = .bool true := hk.v 18 (by kernel_rfl)
          exact Flow.does_skip (wanted_no rfl rfl eg) (fun d hd => by cases hd; rfl)
        · intro act W2 hk
          have eg : act.tmps[18]?.getD undef = .bool true := hk.v 18 (by kernel_rfl)
          exact Flow.does_skip (wanted_no rfl rfl eg) (fun d hd => by cases hd; rfl)
        · intro act W2 hk
          have eg : act.tmps[18]?.getD undef = .bool true := hk.v 18 (by kernel_rfl)
          exact Flow.does_skip (wanted_no rfl rfl eg) (fun d hd => by cases hd; rfl)
        · intro act W2 hk
          have eg : act.tmps[18]?.getD undef = .bool true := hk.v 18 (by kernel_rfl)
          exact Flow.does_skip (wanted_no rfl rfl eg) (fun d hd => by cases hd; rfl)
        · intro act W2 hk
          have eg : act.tmps[18]?.getD undef = .bool true := hk.v 18 (by kernel_rfl)
          exact Flow.does_skip (wanted_no rfl rfl eg) (fun d hd => by cases hd; rfl)
        · intro act W2 hk
          have eg : act.tmps[18]?.getD undef = .bool true := hk.v 18 (by kernel_rfl)
          exact Flow.does_skip (wanted_no rfl rfl eg) (fun d hd => by cases hd; rfl)
        · intro act W2 hk
          refine Flow.does_intro rfl (fun Kq hK => ?_)
          have e18 : act.tmps[18]?.getD undef = .bool true := hk.v 18 (by kernel_rfl)
          clear hk
          go_simp
          exact hK _ _ (Ext.refl _) (fun d hd => by cases hd; rfl)
      · intro act W2 he
        have hxW2 := Hd.mk ((Ext.drew W).trans he.ext)
        obtain ⟨us, hA, hF⟩ := he.out [14, 15, 16, 17, 18, 19, 20, 21, 22, 23, 24, 25] (by kernel_rfl)
        simp only [Flow.fillL, List.contains_cons, List.contains_nil, Nat.reduceBEq, Bool.or_false, Bool.false_or, Bool.or_true, Bool.true_or, ↓reduceIte, Nat.reduceAdd, Bool.false_eq_true] at hA
        subst hA
        have f25 : us 25 = .bool true := hF 25 (by simp)
        clear hF he
        rw [f25]
        clear f25
        refine (show wpList _ _ _ [] _ _ from ?_)
        go_wp2_with fail
        go_ret
        exact ⟨rfl, hxb.out.trans hxW2.out⟩
    · have hlt1 : j < l.length := by omega
      have hx1 := List.getElem?_eq_getElem hlt1
      generalize l[j] = x at hx1
      replace hx1 := Hd.mk hx1
      obtain ⟨b1, o1, rfl, _, hck⟩ := kr1.out.at hx1.out
      have kcx := Hd.mk (fun (q : Nat) u hq => Ext.cell hxb.out (hck q u hq))
      have hst := Hd.mk (underJ_step hx1.out hy1.out)
      clear hck
      by_cases hxy : x = y
      · subst hxy
        refine Flow.wp_region_flow_l (fun qq => match qq with
          | 14 => SP.eq (.int .i64 (j : Nat))
          | 15 => SP.eq (.slice (some ⟨b1, o1, none⟩) l.length c1)
          | 16 => SP.eq (.int .i64 (l.length : Nat))
          | 17 => SP.eq (.bool false)
          | 18 => SP.eq (.bool false)
          | 19 => SP.eq (.slice (some ⟨b1, o1, none⟩) l.length c1)
          | 20 => SP.eq (.int .i64 (j : Nat))
          | 21 => SP.eq (.pointer (some ⟨b1, o1 + j * 2, none⟩))
          | 22 => SP.eq (.agg #[.string x.1, .string x.2])
          | 23 => SP.eq (.agg #[.string x.1, .string x.2])
          | 24 => SP.eq (.bool false)
          | 25 => SP.eq (.bool false)
          | _ => SP.any) 12 (by kernel_rfl) 27 rfl (by kernel_rfl) ?_ ?_
        · skip
          refine ⟨?_, ?_, ?_, ?_, ?_, ?_, ?_, ?_, ?_, ?_, ?_, ?_, trivial⟩
          · intro act W2 hk
            refine Flow.does_intro rfl (fun Kq hK => ?_)
            have e5 : act.tmps[5]?.getD undef = .int .i64 (j : Nat) := hk.o 5 (by kernel_rfl)
            clear hk
            go_simp
            exact hK _ _ (Ext.refl _) (fun d hd => by cases hd; rfl)
          · intro act W2 hk
            refine Flow.does_intro rfl (fun Kq hK => ?_)
            have e0 : act.tmps[0]?.getD undef = .slice (some ⟨b1, o1, none⟩) l.length c1 := hk.o 0 (by kernel_rfl)
            clear hk
            go_simp
            exact hK _ _ (Ext.refl _) (fun d hd => by cases hd; rfl)
          · intro act W2 hk
            refine Flow.does_intro rfl (fun Kq hK => ?_)
            have e15 : act.tmps[15]?.getD undef = .slice (some ⟨b1, o1, none⟩) l.length c1 := hk.v 15 (by kernel_rfl)
            clear hk
            go_simp
            exact hK _ _ (Ext.refl _) (fun d hd => by cases hd; rfl)
          · intro act W2 hk
            refine Flow.does_intro rfl (fun Kq hK => ?_)
            have e14 : act.tmps[14]?.getD undef = .int .i64 (j : Nat) := hk.v 14 (by kernel_rfl)
            have e16 : act.tmps[16]?.getD undef = .int .i64 (l.length : Nat) := hk.v 16 (by kernel_rfl)
            clear hk
            go_simp
            exact hK _ _ (Ext.refl _) (fun d hd => by cases hd; first | rfl | (simp [SP.eq]; omega))
          · intro act W2 hk
            refine Flow.does_intro rfl (fun Kq hK => ?_)
            have e17 : act.tmps[17]?.getD undef = .bool false := hk.v 17 (by kernel_rfl)
            clear hk
            go_simp
            exact hK _ _ (Ext.refl _) (fun d hd => by cases hd; rfl)
          · intro act W2 hk
            have eg : act.tmps[18]?.getD undef = .bool false := hk.v 18 (by kernel_rfl)
            refine Flow.does_intro (wanted_yes rfl rfl eg) (fun Kq hK => ?_)
            clear eg
            have e0 : act.tmps[0]?.getD undef = .slice (some ⟨b1, o1, none⟩) l.length c1 := hk.o 0 (by kernel_rfl)
            clear hk
            go_simp
            exact hK _ _ (Ext.refl _) (fun d hd => by cases hd; rfl)
          · intro act W2 hk
            have eg : act.tmps[18]?.getD undef = .bool false := hk.v 18 (by kernel_rfl)
            refine Flow.does_intro (wanted_yes rfl rfl eg) (fun Kq hK => ?_)
            clear eg
            have e5 : act.tmps[5]?.getD undef = .int .i64 (j : Nat) := hk.o 5 (by kernel_rfl)
            clear hk
            go_simp
            exact hK _ _ (Ext.refl _) (fun d hd => by cases hd; rfl)
          · intro act W2 hk
            have eg : act.tmps[18]?.getD undef = .bool false := hk.v 18 (by kernel_rfl)
            refine Flow.does_intro (wanted_yes rfl rfl eg) (fun Kq hK => ?_)
            clear eg
            have e19 : act.tmps[19]?.getD undef = .slice (some ⟨b1, o1, none⟩) l.length c1 := hk.v 19 (by kernel_rfl)
            have e20 : act.tmps[20]?.getD undef = .int .i64 (j : Nat) := hk.v 20 (by kernel_rfl)
            clear hk
            go_simp
            exact hK _ _ (Ext.refl _) (fun d hd => by cases hd; rfl)
          · intro act W2 hk
            have eg : act.tmps[18]?.getD undef = .bool false := hk.v 18 (by kernel_rfl)
            refine Flow.does_intro (wanted_yes rfl rfl eg) (fun Kq hK => ?_)
            clear eg
            have e21 : act.tmps[21]?.getD undef = .pointer (some ⟨b1, o1 + j * 2, none⟩) := hk.v 21 (by kernel_rfl)
            have g0 := Ext.cell ((Ext.drew W).trans hk.ext) ((kcx.out) 0 _ rfl)
            rw [Nat.add_zero] at g0
            have g1 := Ext.cell ((Ext.drew W).trans hk.ext) ((kcx.out) 1 _ rfl)
            clear hk
            go_simp
            exact hK _ _ (Ext.refl _) (fun d hd => by cases hd; rfl)
          · intro act W2 hk
            have eg : act.tmps[18]?.getD undef = .bool false := hk.v 18 (by kernel_rfl)
            refine Flow.does_intro (wanted_yes rfl rfl eg) (fun Kq hK => ?_)
            clear eg
            have e6 : act.tmps[6]?.getD undef = .pointer (some ⟨pB, 0, none⟩) := hk.o 6 (by kernel_rfl)
            have g := ((kB.out).ext ((Ext.drew W).trans hk.ext)).cell
            clear hk
            go_simp
            exact hK _ _ (Ext.refl _) (fun d hd => by cases hd; rfl)
          · intro act W2 hk
            have eg : act.tmps[18]?.getD undef = .bool false := hk.v 18 (by kernel_rfl)
            refine Flow.does_intro (wanted_yes rfl rfl eg) (fun Kq hK => ?_)
            clear eg
            have e22 : act.tmps[22]?.getD undef = .agg #[.string x.1, .string x.2] := hk.v 22 (by kernel_rfl)
            have e23 : act.tmps[23]?.getD undef = .agg #[.string x.1, .string x.2] := hk.v 23 (by kernel_rfl)
            clear hk
            go_simp
            exact hK _ _ (Ext.refl _) (fun d hd => by cases hd; rfl)
          · intro act W2 hk
            refine Flow.does_intro rfl (fun Kq hK => ?_)
            have e18 : act.tmps[18]?.getD undef = .bool false := hk.v 18 (by kernel_rfl)
            have e24 : act.tmps[24]?.getD undef = .bool false := hk.v 24 (by kernel_rfl)
            clear hk
            go_simp
            exact hK _ _ (Ext.refl _) (fun d hd => by cases hd; rfl)
        · intro act W2 he
          have hxW2 := Hd.mk ((Ext.drew W).trans he.ext)
          obtain ⟨us, hA, hF⟩ := he.out [14, 15, 16, 17, 18, 19, 20, 21, 22, 23, 24, 25] (by kernel_rfl)
          simp only [Flow.fillL, List.contains_cons, List.contains_nil, Nat.reduceBEq, Bool.or_false, Bool.false_or, Bool.or_true, Bool.true_or, ↓reduceIte, Nat.reduceAdd, Bool.false_eq_true] at hA
          subst hA
          have f25 : us 25 = .bool false := hF 25 (by simp)
          clear hF he
          rw [f25]
          clear f25
          refine (show wpList _ _ _ [] _ _ from ?_)
          go_wp2_with fail
          go_roundg (m.length + 1 - (j + 1))
          case measure => have := hq.out; omega
          case rel => exact ⟨j + 1, by omega, ⟨rfl⟩, by go_num, ⟨by rw [hI.out, hst.out]; simp⟩, ⟨hxb.out.trans hxW2.out⟩⟩
      · have hr0 : r = false := by rw [hI.out, hst.out, decide_eq_false hxy]; rfl
        subst hr0
        have hv := Hd.mk (not2 (n := x.1) (n' := y.1) (k := x.2) (k' := y.2) (fun h => hxy (Prod.ext h.1 h.2)))
        clear hxy
        refine Flow.wp_region_flow_l (fun qq => match qq with
          | 14 => SP.eq (.int .i64 (j : Nat))
          | 15 => SP.eq (.slice (some ⟨b1, o1, none⟩) l.length c1)
          | 16 => SP.eq (.int .i64 (l.length : Nat))
          | 17 => SP.eq (.bool false)
          | 18 => SP.eq (.bool false)
          | 19 => SP.eq (.slice (some ⟨b1, o1, none⟩) l.length c1)
          | 20 => SP.eq (.int .i64 (j : Nat))
          | 21 => SP.eq (.pointer (some ⟨b1, o1 + j * 2, none⟩))
          | 22 => SP.eq (.agg #[.string x.1, .string x.2])
          | 23 => SP.eq (.agg #[.string y.1, .string y.2])
          | 24 => SP.eq (.bool true)
          | 25 => SP.eq (.bool true)
          | _ => SP.any) 12 (by kernel_rfl) 27 rfl (by kernel_rfl) ?_ ?_
        · skip
          refine ⟨?_, ?_, ?_, ?_, ?_, ?_, ?_, ?_, ?_, ?_, ?_, ?_, trivial⟩
          · intro act W2 hk
            refine Flow.does_intro rfl (fun Kq hK => ?_)
            have e5 : act.tmps[5]?.getD undef = .int .i64 (j : Nat) := hk.o 5 (by kernel_rfl)
            clear hk
            go_simp
            exact hK _ _ (Ext.refl _) (fun d hd => by cases hd; rfl)
          · intro act W2 hk
            refine Flow.does_intro rfl (fun Kq hK => ?_)
            have e0 : act.tmps[0]?.getD undef = .slice (some ⟨b1, o1, none⟩) l.length c1 := hk.o 0 (by kernel_rfl)
            clear hk
            go_simp
            exact hK _ _ (Ext.refl _) (fun d hd => by cases hd; rfl)
          · intro act W2 hk
            refine Flow.does_intro rfl (fun Kq hK => ?_)
            have e15 : act.tmps[15]?.getD undef = .slice (some ⟨b1, o1, none⟩) l.length c1 := hk.v 15 (by kernel_rfl)
            clear hk
            go_simp
            exact hK _ _ (Ext.refl _) (fun d hd => by cases hd; rfl)
          · intro act W2 hk
            refine Flow.does_intro rfl (fun Kq hK => ?_)
            have e14 : act.tmps[14]?.getD undef = .int .i64 (j : Nat) := hk.v 14 (by kernel_rfl)
            have e16 : act.tmps[16]?.getD undef = .int .i64 (l.length : Nat) := hk.v 16 (by kernel_rfl)
            clear hk
            go_simp
            exact hK _ _ (Ext.refl _) (fun d hd => by cases hd; first | rfl | (simp [SP.eq]; omega))
          · intro act W2 hk
            refine Flow.does_intro rfl (fun Kq hK => ?_)
            have e17 : act.tmps[17]?.getD undef = .bool false := hk.v 17 (by kernel_rfl)
            clear hk
            go_simp
            exact hK _ _ (Ext.refl _) (fun d hd => by cases hd; rfl)
          · intro act W2 hk
            have eg : act.tmps[18]?.getD undef = .bool false := hk.v 18 (by kernel_rfl)
            refine Flow.does_intro (wanted_yes rfl rfl eg) (fun Kq hK => ?_)
            clear eg
            have e0 : act.tmps[0]?.getD undef = .slice (some ⟨b1, o1, none⟩) l.length c1 := hk.o 0 (by kernel_rfl)
            clear hk
            go_simp
            exact hK _ _ (Ext.refl _) (fun d hd => by cases hd; rfl)
          · intro act W2 hk
            have eg : act.tmps[18]?.getD undef = .bool false := hk.v 18 (by kernel_rfl)
            refine Flow.does_intro (wanted_yes rfl rfl eg) (fun Kq hK => ?_)
            clear eg
            have e5 : act.tmps[5]?.getD undef = .int .i64 (j : Nat) := hk.o 5 (by kernel_rfl)
            clear hk
            go_simp
            exact hK _ _ (Ext.refl _) (fun d hd => by cases hd; rfl)
          · intro act W2 hk
            have eg : act.tmps[18]?.getD undef = .bool false := hk.v 18 (by kernel_rfl)
            refine Flow.does_intro (wanted_yes rfl rfl eg) (fun Kq hK => ?_)
            clear eg
            have e19 : act.tmps[19]?.getD undef = .slice (some ⟨b1, o1, none⟩) l.length c1 := hk.v 19 (by kernel_rfl)
            have e20 : act.tmps[20]?.getD undef = .int .i64 (j : Nat) := hk.v 20 (by kernel_rfl)
            clear hk
            go_simp
            exact hK _ _ (Ext.refl _) (fun d hd => by cases hd; rfl)
          · intro act W2 hk
            have eg : act.tmps[18]?.getD undef = .bool false := hk.v 18 (by kernel_rfl)
            refine Flow.does_intro (wanted_yes rfl rfl eg) (fun Kq hK => ?_)
            clear eg
            have e21 : act.tmps[21]?.getD undef = .pointer (some ⟨b1, o1 + j * 2, none⟩) := hk.v 21 (by kernel_rfl)
            have g0 := Ext.cell ((Ext.drew W).trans hk.ext) ((kcx.out) 0 _ rfl)
            rw [Nat.add_zero] at g0
            have g1 := Ext.cell ((Ext.drew W).trans hk.ext) ((kcx.out) 1 _ rfl)
            clear hk
            go_simp
            exact hK _ _ (Ext.refl _) (fun d hd => by cases hd; rfl)
          · intro act W2 hk
            have eg : act.tmps[18]?.getD undef = .bool false := hk.v 18 (by kernel_rfl)
            refine Flow.does_intro (wanted_yes rfl rfl eg) (fun Kq hK => ?_)
            clear eg
            have e6 : act.tmps[6]?.getD undef = .pointer (some ⟨pB, 0, none⟩) := hk.o 6 (by kernel_rfl)
            have g := ((kB.out).ext ((Ext.drew W).trans hk.ext)).cell
            clear hk
            go_simp
            exact hK _ _ (Ext.refl _) (fun d hd => by cases hd; rfl)
          · intro act W2 hk
            have eg : act.tmps[18]?.getD undef = .bool false := hk.v 18 (by kernel_rfl)
            refine Flow.does_intro (wanted_yes rfl rfl eg) (fun Kq hK => ?_)
            clear eg
            have e22 : act.tmps[22]?.getD undef = .agg #[.string x.1, .string x.2] := hk.v 22 (by kernel_rfl)
            have e23 : act.tmps[23]?.getD undef = .agg #[.string y.1, .string y.2] := hk.v 23 (by kernel_rfl)
            clear hk
            skip
            rcases hv.out with q | ⟨q1, q⟩
            all_goals go_simp
            all_goals exact hK _ _ (Ext.refl _) (fun d hd => by cases hd; rfl)
          · intro act W2 hk
            refine Flow.does_intro rfl (fun Kq hK => ?_)
            have e18 : act.tmps[18]?.getD undef = .bool false := hk.v 18 (by kernel_rfl)
            have e24 : act.tmps[24]?.getD undef = .bool true := hk.v 24 (by kernel_rfl)
            clear hk
            go_simp
            exact hK _ _ (Ext.refl _) (fun d hd => by cases hd; rfl)
        · intro act W2 he
          have hxW2 := Hd.mk ((Ext.drew W).trans he.ext)
          obtain ⟨us, hA, hF⟩ := he.out [14, 15, 16, 17, 18, 19, 20, 21, 22, 23, 24, 25] (by kernel_rfl)
          simp only [Flow.fillL, List.contains_cons, List.contains_nil, Nat.reduceBEq, Bool.or_false, Bool.false_or, Bool.or_true, Bool.true_or, ↓reduceIte, Nat.reduceAdd, Bool.false_eq_true] at hA
          subst hA
          have f25 : us 25 = .bool true := hF 25 (by simp)
          clear hF he
          rw [f25]
          clear f25
          refine (show wpList _ _ _ [] _ _ from ?_)
          go_wp2_with fail
          go_ret
          exact ⟨rfl, hxb.out.trans hxW2.out⟩
  · have hjl : j = m.length := by omega
    subst hjl
    have hr0 : r = true := by rw [hI.out, underJ_end]
    subst hr0
    go_wp2_with fail
    go_ret
    exact ⟨rfl, hxr.out⟩

/-- How many edits are at the end of a way, or below it. -/
def countU (l : List E) (way : List Step) : Nat := (l.filter fun e => underW e.way way).length
theorem countU_take {l : List E} {j : Nat} {x : E} (h : l[j]? = some x) (way : List Step) : countU (l.take (j + 1)) way = countU (l.take j) way + (if underW x.way way = true then 1 else 0) := by
  unfold countU
  rw [List.take_add_one, h, List.filter_append, List.length_append]
  cases hu : underW x.way way <;> simp [hu]
theorem countU_le (l : List E) (way : List Step) : countU l way ≤ l.length := List.length_filter_le _ _

set_option maxRecDepth 100000 in
set_option maxHeartbeats 4000000 in
theorem diff_under (l : List E) (way : List Step) (S S' : Nat → Prop) (w : World) (K1 A2 : Option Addr) (c1 c2 : Nat) (h1 : ERow S w K1 l c1) (h2 : WRow S' w A2 way c2) :
    Calls Try.prog 45 #[.slice K1 l.length c1, .slice A2 way.length c2] w fun e w' => e = .returned (.int .i64 (countU l way : Nat)) ∧ Ext w w' := by
  have kr1 := Hd.mk h1
  have kr2 := Hd.mk h2
  have hl1 := h1.len
  clear h1 h2
  go_enter Try.func45, Try.ntmps45
  go_wp2_with fail
  go_loopg [5, 10] (l.length + 1) (fun q m i wr => ∃ j : Nat, j ≤ l.length ∧ Hd (q = l.length + 1 - j) ∧ i = .int .i64 j ∧ m = .int .i64 ((countU (l.take j) way : Nat)) ∧ Hd (Ext w wr))
  case atStart => exact ⟨0, by omega, ⟨by omega⟩, rfl, rfl, ⟨Ext.refl _⟩⟩
  case round =>
  obtain ⟨j, hj, hq, rfl, rfl, hxr⟩ := hrel
  by_cases hlt : j < l.length
  · have hx1 := List.getElem?_eq_getElem hlt
    generalize l[j] = x at hx1
    obtain ⟨b1, o1, ck, rfl, _, hrk, hck⟩ := kr1.out.edit j x hx1
    have hct := Hd.mk (countU_take hx1 way)
    have hcl := countU_le (l.take j) way
    have htl : (l.take j).length ≤ 1048576 := by simp; omega
    obtain ⟨A1, a1, K3, k3, L3, l3, rfl, hwr, _⟩ := hrk
    have hcall := Hd.mk (fun W' (h : Ext w W') => path_under x.way way S S' W' A1 A2 a1 c2 (hwr.ext h) (kr2.out.ext h))
    obtain ⟨e0, e1, e2, e3, e4, e5, e6, e7, e8, e9, e10, e11, e12, e13⟩ := c14C hxr.out hck
    clear hck hx1 hwr
    generalize countU (l.take j) way = z at *
    go_wp2_with fail
    have hxb := Hd.mk (hxr.out.trans (Ext.alloc wr (.cells #[.int .i64 x.kind, .slice A1 x.way.length a1, .string x.node.name, .string x.node.key, .int .i64 x.node.kind, .int .u64 x.node.num, .string x.node.text, .slice K3 x.node.kids.length k3, .string x.old.name, .string x.old.key, .int .i64 x.old.kind, .int .u64 x.old.num, .string x.old.text, .slice L3 x.old.kids.length l3] 68)))
    refine Calls.mono (hcall.out _ hxb.out) ?_
    rintro e w2 ⟨rfl, hx3⟩
    clear hcall e0 e1 e2 e3 e4 e5 e6 e7 e8 e9 e10 e11 e12 e13
    have hxr3 := Hd.mk (hxb.out.trans hx3)
    clear hx3
    cases hu : underW x.way way with
    | true =>
      go_wp2_with fail
      go_roundg (l.length + 1 - (j + 1))
      case measure => have := hq.out; omega
      case rel => exact ⟨j + 1, by omega, ⟨rfl⟩, by go_num, by rw [hct.out, hu]; go_num, hxr3⟩
    | false =>
      go_wp2_with fail
      go_roundg (l.length + 1 - (j + 1))
      case measure => have := hq.out; omega
      case rel => exact ⟨j + 1, by omega, ⟨rfl⟩, by go_num, by rw [hct.out, hu]; go_num, hxr3⟩
  · have hjl : j = l.length := by omega
    subst hjl
    rw [List.take_length]
    go_wp2_with fail
    go_ret
    exact ⟨rfl, hxr.out⟩
end Go.Proofs.Ytgkgedjmnbjalaa

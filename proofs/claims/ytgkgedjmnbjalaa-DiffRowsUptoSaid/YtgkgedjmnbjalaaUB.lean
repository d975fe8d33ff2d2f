/- Under of the document: of two ways; how many edits are at the end of a way, or below.
   Conditions: none. -/
import Derived.Test.YtgkgedjmnbjalaaTW
set_option linter.unusedSimpArgs false
namespace Go.Proofs.Ytgkgedjmnbjalaa
open Go.RowKit Go.Sort

set_option maxRecDepth 100000 in
set_option maxHeartbeats 4000000 in
theorem ref_underW (l m : List Step) (S S' : Nat → Prop) (w : World) (A1 A2 : Option Addr) (c1 c2 : Nat) (h1 : WRow S w A1 l c1) (h2 : WRow S' w A2 m c2) :
    Calls Try.prog 105 #[.slice A1 l.length c1, .slice A2 m.length c2] w fun e w' => e = .returned (.bool (underW l m)) ∧ Ext w w' := by
  have kr1 := Hd.mk h1
  have kr2 := Hd.mk h2
  have hl1 := h1.len
  have hl2 := h2.len
  clear h1 h2
  generalize hr : underW l m = r
  replace hr := Hd.mk (show r = underJ l m 0 from hr.symm)
  go_enter Try.func105, Try.ntmps105
  go_wp2_with fail
  go_loopg [5] (m.length + 1) (fun q i wr => ∃ j : Nat, j ≤ m.length ∧ Hd (q = m.length + 1 - j) ∧ i = .int .i64 j ∧ Hd (r = underJ l m j) ∧ Hd (Ext w wr))
  case atStart => exact ⟨0, by omega, ⟨by omega⟩, rfl, hr, ⟨Ext.refl _⟩⟩
  case round =>
  obtain ⟨j, hj, hq, rfl, hI, hxr⟩ := hrel
  by_cases hlt : j < m.length
  · have hy1 := List.getElem?_eq_getElem hlt
    generalize m[j] = y at hy1
    replace hy1 := Hd.mk hy1
    obtain ⟨b2, o2, rfl, _, hdk⟩ := kr2.out.at hy1.out
    have kcy := Hd.mk (fun (q : Nat) u hq => Ext.cell hxr.out (hdk q u hq))
    clear hdk
    go_wp2_with fail
    by_cases hjl : l.length ≤ j
    · have hr0 : r = false := by rw [hI.out, underJ_short hlt hjl]
      subst hr0
      refine Flow.wp_region_flow_l (fun qq => match qq with
        | 12 => SP.eq (.int .i64 (j : Nat))
        | 13 => SP.eq (.slice A1 l.length c1)
        | 14 => SP.eq (.int .i64 (l.length : Nat))
        | 15 => SP.eq (.bool true)
        | 16 => SP.eq (.bool true)
        | 17 => SP.eq (undef)
        | 18 => SP.eq (undef)
        | 19 => SP.eq (undef)
        | 20 => SP.eq (undef)
        | 21 => SP.eq (undef)
        | 22 => SP.eq (undef)
        | 23 => SP.eq (undef)
        | 24 => SP.eq (undef)
        | 25 => SP.eq (undef)
        | 26 => SP.eq (.bool true)
        | _ => SP.any) 15 (by kernel_rfl) 27 rfl (by kernel_rfl) ?_ ?_
      · skip
        refine ⟨?_, ?_, ?_, ?_, ?_, ?_, ?_, ?_, ?_, ?_, ?_, ?_, ?_, ?_, ?_, trivial⟩
        · intro act W2 hk
          refine Flow.does_intro rfl (fun Kq hK => ?_)
          have e5 : act.tmps[5]?.getD undef = .int .i64 (j : Nat) := hk.o 5 (by kernel_rfl)
          clear hk
          go_simp
          exact hK _ _ (Ext.refl _) (fun d hd => by cases hd; rfl)
        · intro act W2 hk
          refine Flow.does_intro rfl (fun Kq hK => ?_)
          have e0 : act.tmps[0]?.getD undef = .slice A1 l.length c1 := hk.o 0 (by kernel_rfl)
          clear hk
          go_simp
          exact hK _ _ (Ext.refl _) (fun d hd => by cases hd; rfl)
        · intro act W2 hk
          refine Flow.does_intro rfl (fun Kq hK => ?_)
          have e13 : act.tmps[13]?.getD undef = .slice A1 l.length c1 := hk.v 13 (by kernel_rfl)
          clear hk
          go_simp
          exact hK _ _ (Ext.refl _) (fun d hd => by cases hd; rfl)
        · intro act W2 hk
          refine Flow.does_intro rfl (fun Kq hK => ?_)
          have e12 : act.tmps[12]?.getD undef = .int .i64 (j : Nat) := hk.v 12 (by kernel_rfl)
          have e14 : act.tmps[14]?.getD undef = .int .i64 (l.length : Nat) := hk.v 14 (by kernel_rfl)
          clear hk
          go_simp
          exact hK _ _ (Ext.refl _) (fun d hd => by cases hd; first | rfl | (simp [SP.eq]; omega))
        · intro act W2 hk
          refine Flow.does_intro rfl (fun Kq hK => ?_)
          have e15 : act.tmps[15]?.getD undef = .bool true := hk.v 15 (by kernel_rfl)
          clear hk
          go_simp
          exact hK _ _ (Ext.refl _) (fun d hd => by cases hd; rfl)
        · intro act W2 hk
          have eg : act.tmps[16]?.getD undef = .bool true := hk.v 16 (by kernel_rfl)
          exact Flow.does_skip (wanted_no rfl rfl eg) (fun d hd => by cases hd; rfl)
        · intro act W2 hk
          have eg : act.tmps[16]?.getD undef = .bool true := hk.v 16 (by kernel_rfl)
          exact Flow.does_skip (wanted_no rfl rfl eg) (fun d hd => by cases hd; rfl)
        · intro act W2 hk
          have eg : act.tmps[16]?.getD undef = .bool true := hk.v 16 (by kernel_rfl)
          exact Flow.does_skip (wanted_no rfl rfl eg) (fun d hd => by cases hd; rfl)
        · intro act W2 hk
          have eg : act.tmps[16]?.getD undef = .bool true := hk.v 16 (by kernel_rfl)
          exact Flow.does_skip (wanted_no rfl rfl eg) (fun d hd => by cases hd; rfl)
        · intro act W2 hk
          have eg : act.tmps[16]?.getD undef = .bool true := hk.v 16 (by kernel_rfl)
          exact Flow.does_skip (wanted_no rfl rfl eg) (fun d hd => by cases hd; rfl)
        · intro act W2 hk
          have eg : act.tmps[16]?.getD undef = .bool true := hk.v 16 (by kernel_rfl)
          exact Flow.does_skip (wanted_no rfl rfl eg) (fun d hd => by cases hd; rfl)
        · intro act W2 hk
          have eg : act.tmps[16]?.getD undef = .bool true := hk.v 16 (by kernel_rfl)
          exact Flow.does_skip (wanted_no rfl rfl eg) (fun d hd => by cases hd; rfl)
        · intro act W2 hk
          have eg : act.tmps[16]?.getD undef = .bool true := hk.v 16 (by kernel_rfl)
          exact Flow.does_skip (wanted_no rfl rfl eg) (fun d hd => by cases hd; rfl)
        · intro act W2 hk
          have eg : act.tmps[16]?.getD undef = .bool true := hk.v 16 (by kernel_rfl)
          exact Flow.does_skip (wanted_no rfl rfl eg) (fun d hd => by cases hd; rfl)
        · intro act W2 hk
          refine Flow.does_intro rfl (fun Kq hK => ?_)
          have e16 : act.tmps[16]?.getD undef = .bool true := hk.v 16 (by kernel_rfl)
          clear hk
          go_simp
          exact hK _ _ (Ext.refl _) (fun d hd => by cases hd; rfl)
      · intro act W2 he
        have hxW2 := Hd.mk ((Ext.drew wr).trans he.ext)
        obtain ⟨us, hA, hF⟩ := he.out [12, 13, 14, 15, 16, 17, 18, 19, 20, 21, 22, 23, 24, 25, 26] (by kernel_rfl)
        simp only [Flow.fillL, List.contains_cons, List.contains_nil, Nat.reduceBEq, Bool.or_false, Bool.false_or, Bool.or_true, Bool.true_or, ↓reduceIte, Nat.reduceAdd, Bool.false_eq_true] at hA
        subst hA
        have f26 : us 26 = .bool true := hF 26 (by simp)
        clear hF he
        rw [f26]
        clear f26
        refine (show wpList _ _ _ [] _ _ from ?_)
        go_wp2_with fail
        go_ret
        exact ⟨rfl, hxr.out.trans hxW2.out⟩
    · have hlt1 : j < l.length := by omega
      have hx1 := List.getElem?_eq_getElem hlt1
      generalize l[j] = x at hx1
      replace hx1 := Hd.mk hx1
      obtain ⟨b1, o1, rfl, _, hck⟩ := kr1.out.at hx1.out
      have kcx := Hd.mk (fun (q : Nat) u hq => Ext.cell hxr.out (hck q u hq))
      have hst := Hd.mk (underJ_step hx1.out hy1.out)
      clear hck
      by_cases hxy : x = y
      · subst hxy
        refine Flow.wp_region_flow_l (fun qq => match qq with
          | 12 => SP.eq (.int .i64 (j : Nat))
          | 13 => SP.eq (.slice (some ⟨b1, o1, none⟩) l.length c1)
          | 14 => SP.eq (.int .i64 (l.length : Nat))
          | 15 => SP.eq (.bool false)
          | 16 => SP.eq (.bool false)
          | 17 => SP.eq (.slice (some ⟨b1, o1, none⟩) l.length c1)
          | 18 => SP.eq (.int .i64 (j : Nat))
          | 19 => SP.eq (.pointer (some ⟨b1, o1 + j * 2, none⟩))
          | 20 => SP.eq (.agg #[.string x.1, .string x.2])
          | 21 => SP.eq (.slice (some ⟨b2, o2, none⟩) m.length c2)
          | 22 => SP.eq (.int .i64 (j : Nat))
          | 23 => SP.eq (.pointer (some ⟨b2, o2 + j * 2, none⟩))
          | 24 => SP.eq (.agg #[.string x.1, .string x.2])
          | 25 => SP.eq (.bool false)
          | 26 => SP.eq (.bool false)
          | _ => SP.any) 15 (by kernel_rfl) 27 rfl (by kernel_rfl) ?_ ?_
        · skip
          refine ⟨?_, ?_, ?_, ?_, ?_, ?_, ?_, ?_, ?_, ?_, ?_, ?_, ?_, ?_, ?_, trivial⟩
          · intro act W2 hk
            refine Flow.does_intro rfl (fun Kq hK => ?_)
            have e5 : act.tmps[5]?.getD undef = .int .i64 (j : Nat) := hk.o 5 (by kernel_rfl)
            clear hk
            go_simp
            exact hK _ _ (Ext.refl _) (fun d hd => by cases hd; rfl)
          · intro act W2 hk
            refine Flow.does_intro rfl (fun Kq hK => ?_)
            have e0 : act.tmps[0]?.getD undef = .slice (some ⟨b1, o1, none⟩) l.length c1 := hk.o 0 (by kernel_rfl)
            clear hk
            go_simp
            exact hK _ _ (Ext.refl _) (fun d hd => by cases hd; rfl)
          · intro act W2 hk
            refine Flow.does_intro rfl (fun Kq hK => ?_)
            have e13 : act.tmps[13]?.getD undef = .slice (some ⟨b1, o1, none⟩) l.length c1 := hk.v 13 (by kernel_rfl)
            clear hk
            go_simp
            exact hK _ _ (Ext.refl _) (fun d hd => by cases hd; rfl)
          · intro act W2 hk
            refine Flow.does_intro rfl (fun Kq hK => ?_)
            have e12 : act.tmps[12]?.getD undef = .int .i64 (j : Nat) := hk.v 12 (by kernel_rfl)
            have e14 : act.tmps[14]?.getD undef = .int .i64 (l.length : Nat) := hk.v 14 (by kernel_rfl)
            clear hk
            go_simp
            exact hK _ _ (Ext.refl _) (fun d hd => by cases hd; first | rfl | (simp [SP.eq]; omega))
          · intro act W2 hk
            refine Flow.does_intro rfl (fun Kq hK => ?_)
            have e15 : act.tmps[15]?.getD undef = .bool false := hk.v 15 (by kernel_rfl)
            clear hk
            go_simp
            exact hK _ _ (Ext.refl _) (fun d hd => by cases hd; rfl)
          · intro act W2 hk
            have eg : act.tmps[16]?.getD undef = .bool false := hk.v 16 (by kernel_rfl)
            refine Flow.does_intro (wanted_yes rfl rfl eg) (fun Kq hK => ?_)
            clear eg
            have e0 : act.tmps[0]?.getD undef = .slice (some ⟨b1, o1, none⟩) l.length c1 := hk.o 0 (by kernel_rfl)
            clear hk
            go_simp
            exact hK _ _ (Ext.refl _) (fun d hd => by cases hd; rfl)
          · intro act W2 hk
            have eg : act.tmps[16]?.getD undef = .bool false := hk.v 16 (by kernel_rfl)
            refine Flow.does_intro (wanted_yes rfl rfl eg) (fun Kq hK => ?_)
            clear eg
            have e5 : act.tmps[5]?.getD undef = .int .i64 (j : Nat) := hk.o 5 (by kernel_rfl)
            clear hk
            go_simp
            exact hK _ _ (Ext.refl _) (fun d hd => by cases hd; rfl)
          · intro act W2 hk
            have eg : act.tmps[16]?.getD undef = .bool false := hk.v 16 (by kernel_rfl)
            refine Flow.does_intro (wanted_yes rfl rfl eg) (fun Kq hK => ?_)
            clear eg
            have e17 : act.tmps[17]?.getD undef = .slice (some ⟨b1, o1, none⟩) l.length c1 := hk.v 17 (by kernel_rfl)
            have e18 : act.tmps[18]?.getD undef = .int .i64 (j : Nat) := hk.v 18 (by kernel_rfl)
            clear hk
            go_simp
            exact hK _ _ (Ext.refl _) (fun d hd => by cases hd; rfl)
          · intro act W2 hk
            have eg : act.tmps[16]?.getD undef = .bool false := hk.v 16 (by kernel_rfl)
            refine Flow.does_intro (wanted_yes rfl rfl eg) (fun Kq hK => ?_)
            clear eg
            have e19 : act.tmps[19]?.getD undef = .pointer (some ⟨b1, o1 + j * 2, none⟩) := hk.v 19 (by kernel_rfl)
            have g0 := Ext.cell ((Ext.drew wr).trans hk.ext) ((kcx.out) 0 _ rfl)
            rw [Nat.add_zero] at g0
            have g1 := Ext.cell ((Ext.drew wr).trans hk.ext) ((kcx.out) 1 _ rfl)
            clear hk
            go_simp
            exact hK _ _ (Ext.refl _) (fun d hd => by cases hd; rfl)
          · intro act W2 hk
            have eg : act.tmps[16]?.getD undef = .bool false := hk.v 16 (by kernel_rfl)
            refine Flow.does_intro (wanted_yes rfl rfl eg) (fun Kq hK => ?_)
            clear eg
            have e1 : act.tmps[1]?.getD undef = .slice (some ⟨b2, o2, none⟩) m.length c2 := hk.o 1 (by kernel_rfl)
            clear hk
            go_simp
            exact hK _ _ (Ext.refl _) (fun d hd => by cases hd; rfl)
          · intro act W2 hk
            have eg : act.tmps[16]?.getD undef = .bool false := hk.v 16 (by kernel_rfl)
            refine Flow.does_intro (wanted_yes rfl rfl eg) (fun Kq hK => ?_)
            clear eg
            have e5 : act.tmps[5]?.getD undef = .int .i64 (j : Nat) := hk.o 5 (by kernel_rfl)
            clear hk
            go_simp
            exact hK _ _ (Ext.refl _) (fun d hd => by cases hd; rfl)
          · intro act W2 hk
            have eg : act.tmps[16]?.getD undef = .bool false := hk.v 16 (by kernel_rfl)
            refine Flow.does_intro (wanted_yes rfl rfl eg) (fun Kq hK => ?_)
            clear eg
            have e21 : act.tmps[21]?.getD undef = .slice (some ⟨b2, o2, none⟩) m.length c2 := hk.v 21 (by kernel_rfl)
            have e22 : act.tmps[22]?.getD undef = .int .i64 (j : Nat) := hk.v 22 (by kernel_rfl)
            clear hk
            go_simp
            exact hK _ _ (Ext.refl _) (fun d hd => by cases hd; rfl)
          · intro act W2 hk
            have eg : act.tmps[16]?.getD undef = .bool false := hk.v 16 (by kernel_rfl)
            refine Flow.does_intro (wanted_yes rfl rfl eg) (fun Kq hK => ?_)
            clear eg
            have e23 : act.tmps[23]?.getD undef = .pointer (some ⟨b2, o2 + j * 2, none⟩) := hk.v 23 (by kernel_rfl)
            have g0 := Ext.cell ((Ext.drew wr).trans hk.ext) ((kcy.out) 0 _ rfl)
            rw [Nat.add_zero] at g0
            have g1 := Ext.cell ((Ext.drew wr).trans hk.ext) ((kcy.out) 1 _ rfl)
            clear hk
            go_simp
            exact hK _ _ (Ext.refl _) (fun d hd => by cases hd; rfl)
          · intro act W2 hk
            have eg : act.tmps[16]?.getD undef = .bool false := hk.v 16 (by kernel_rfl)
            refine Flow.does_intro (wanted_yes rfl rfl eg) (fun Kq hK => ?_)
            clear eg
            have e20 : act.tmps[20]?.getD undef = .agg #[.string x.1, .string x.2] := hk.v 20 (by kernel_rfl)
            have e24 : act.tmps[24]?.getD undef = .agg #[.string x.1, .string x.2] := hk.v 24 (by kernel_rfl)
            clear hk
            go_simp
            exact hK _ _ (Ext.refl _) (fun d hd => by cases hd; rfl)
          · intro act W2 hk
            refine Flow.does_intro rfl (fun Kq hK => ?_)
            have e16 : act.tmps[16]?.getD undef = .bool false := hk.v 16 (by kernel_rfl)
            have e25 : act.tmps[25]?.getD undef = .bool false := hk.v 25 (by kernel_rfl)
            clear hk
            go_simp
            exact hK _ _ (Ext.refl _) (fun d hd => by cases hd; rfl)
        · intro act W2 he
          have hxW2 := Hd.mk ((Ext.drew wr).trans he.ext)
          obtain ⟨us, hA, hF⟩ := he.out [12, 13, 14, 15, 16, 17, 18, 19, 20, 21, 22, 23, 24, 25, 26] (by kernel_rfl)
          simp only [Flow.fillL, List.contains_cons, List.contains_nil, Nat.reduceBEq, Bool.or_false, Bool.false_or, Bool.or_true, Bool.true_or, ↓reduceIte, Nat.reduceAdd, Bool.false_eq_true] at hA
          subst hA
          have f26 : us 26 = .bool false := hF 26 (by simp)
          clear hF he
          rw [f26]
          clear f26
          refine (show wpList _ _ _ [] _ _ from ?_)
          go_wp2_with fail
          go_roundg (m.length + 1 - (j + 1))
          case measure => have := hq.out; omega
          case rel => exact ⟨j + 1, by omega, ⟨rfl⟩, by go_num, ⟨by rw [hI.out, hst.out]; simp⟩, ⟨hxr.out.trans hxW2.out⟩⟩
      · have hr0 : r = false := by rw [hI.out, hst.out, decide_eq_false hxy]; rfl
        subst hr0
        have hv := Hd.mk (not2 (n := x.1) (n' := y.1) (k := x.2) (k' := y.2) (fun h => hxy (Prod.ext h.1 h.2)))
        clear hxy
        refine Flow.wp_region_flow_l (fun qq => match qq with
          | 12 => SP.eq (.int .i64 (j : Nat))
          | 13 => SP.eq (.slice (some ⟨b1, o1, none⟩) l.length c1)
          | 14 => SP.eq (.int .i64 (l.length : Nat))
          | 15 => SP.eq (.bool false)
          | 16 => SP.eq (.bool false)
          | 17 => SP.eq (.slice (some ⟨b1, o1, none⟩) l.length c1)
          | 18 => SP.eq (.int .i64 (j : Nat))
          | 19 => SP.eq (.pointer (some ⟨b1, o1 + j * 2, none⟩))
          | 20 => SP.eq (.agg #[.string x.1, .string x.2])
          | 21 => SP.eq (.slice (some ⟨b2, o2, none⟩) m.length c2)
          | 22 => SP.eq (.int .i64 (j : Nat))
          | 23 => SP.eq (.pointer (some ⟨b2, o2 + j * 2, none⟩))
          | 24 => SP.eq (.agg #[.string y.1, .string y.2])
          | 25 => SP.eq (.bool true)
          | 26 => SP.eq (.bool true)
          | _ => SP.any) 15 (by kernel_rfl) 27 rfl (by kernel_rfl) ?_ ?_
        · skip
          refine ⟨?_, ?_, ?_, ?_, ?_, ?_, ?_, ?_, ?_, ?_, ?_, ?_, ?_, ?_, ?_, trivial⟩
          · intro act W2 hk
            refine Flow.does_intro rfl (fun Kq hK => ?_)
            have e5 : act.tmps[5]?.getD undef = .int .i64 (j : Nat) := hk.o 5 (by kernel_rfl)
            clear hk
            go_simp
            exact hK _ _ (Ext.refl _) (fun d hd => by cases hd; rfl)
          · intro act W2 hk
            refine Flow.does_intro rfl (fun Kq hK => ?_)
            have e0 : act.tmps[0]?.getD undef = .slice (some ⟨b1, o1, none⟩) l.length c1 := hk.o 0 (by kernel_rfl)
            clear hk
            go_simp
            exact hK _ _ (Ext.refl _) (fun d hd => by cases hd; rfl)
          · intro act W2 hk
            refine Flow.does_intro rfl (fun Kq hK => ?_)
            have e13 : act.tmps[13]?.getD undef = .slice (some ⟨b1, o1, none⟩) l.length c1 := hk.v 13 (by kernel_rfl)
            clear hk
            go_simp
            exact hK _ _ (Ext.refl _) (fun d hd => by cases hd; rfl)
          · intro act W2 hk
            refine Flow.does_intro rfl (fun Kq hK => ?_)
            have e12 : act.tmps[12]?.getD undef = .int .i64 (j : Nat) := hk.v 12 (by kernel_rfl)
            have e14 : act.tmps[14]?.getD undef = .int .i64 (l.length : Nat) := hk.v 14 (by kernel_rfl)
            clear hk
            go_simp
            exact hK _ _ (Ext.refl _) (fun d hd => by cases hd; first | rfl | (simp [SP.eq]; omega))
          · intro act W2 hk
            refine Flow.does_intro rfl (fun Kq hK => ?_)
            have e15 : act.tmps[15]?.getD undef = .bool false := hk.v 15 (by kernel_rfl)
            clear hk
            go_simp
            exact hK _ _ (Ext.refl _) (fun d hd => by cases hd; rfl)
          · intro act W2 hk
            have eg : act.tmps[16]?.getD undef = .bool false := hk.v 16 (by kernel_rfl)
            refine Flow.does_intro (wanted_yes rfl rfl eg) (fun Kq hK => ?_)
            clear eg
            have e0 : act.tmps[0]?.getD undef = .slice (some ⟨b1, o1, none⟩) l.length c1 := hk.o 0 (by kernel_rfl)
            clear hk
            go_simp
            exact hK _ _ (Ext.refl _) (fun d hd => by cases hd; rfl)
          · intro act W2 hk
            have eg : act.tmps[16]?.getD undef = .bool false := hk.v 16 (by kernel_rfl)
            refine Flow.does_intro (wanted_yes rfl rfl eg) (fun Kq hK => ?_)
            clear eg
            have e5 : act.tmps[5]?.getD undef = .int .i64 (j : Nat) := hk.o 5 (by kernel_rfl)
            clear hk
            go_simp
            exact hK _ _ (Ext.refl _) (fun d hd => by cases hd; rfl)
          · intro act W2 hk
            have eg : act.tmps[16]?.getD undef = .bool false := hk.v 16 (by kernel_rfl)
            refine Flow.does_intro (wanted_yes rfl rfl eg) (fun Kq hK => ?_)
            clear eg
            have e17 : act.tmps[17]?.getD undef = .slice (some ⟨b1, o1, none⟩) l.length c1 := hk.v 17 (by kernel_rfl)
            have e18 : act.tmps[18]?.getD undef = .int .i64 (j : Nat) := hk.v 18 (by kernel_rfl)
            clear hk
            go_simp
            exact hK _ _ (Ext.refl _) (fun d hd => by cases hd; rfl)
          · intro act W2 hk
            have eg : act.tmps[16]?.getD undef = .bool false := hk.v 16 (by kernel_rfl)
            refine Flow.does_intro (wanted_yes rfl rfl eg) (fun Kq hK => ?_)
            clear eg
            have e19 : act.tmps[19]?.getD undef = .pointer (some ⟨b1, o1 + j * 2, none⟩) := hk.v 19 (by kernel_rfl)
            have g0 := Ext.cell ((Ext.drew wr).trans hk.ext) ((kcx.out) 0 _ rfl)
            rw [Nat.add_zero] at g0
            have g1 := Ext.cell ((Ext.drew wr).trans hk.ext) ((kcx.out) 1 _ rfl)
            clear hk
            go_simp
            exact hK _ _ (Ext.refl _) (fun d hd => by cases hd; rfl)
          · intro act W2 hk
            have eg : act.tmps[16]?.getD undef = .bool false := hk.v 16 (by kernel_rfl)
            refine Flow.does_intro (wanted_yes rfl rfl eg) (fun Kq hK => ?_)
            clear eg
            have e1 : act.tmps[1]?.getD undef = .slice (some ⟨b2, o2, none⟩) m.length c2 := hk.o 1 (by kernel_rfl)
            clear hk
            go_simp
            exact hK _ _ (Ext.refl _) (fun d hd => by cases hd; rfl)
          · intro act W2 hk
            have eg : act.tmps[16]?.getD undef = .bool false := hk.v 16 (by kernel_rfl)
            refine Flow.does_intro (wanted_yes rfl rfl eg) (fun Kq hK => ?_)
            clear eg
            have e5 : act.tmps[5]?.getD undef = .int .i64 (j : Nat) := hk.o 5 (by kernel_rfl)
            clear hk
            go_simp
            exact hK _ _ (Ext.refl _) (fun d hd => by cases hd; rfl)
          · intro act W2 hk
            have eg : act.tmps[16]?.getD undef = .bool false := hk.v 16 (by kernel_rfl)
            refine Flow.does_intro (wanted_yes rfl rfl eg) (fun Kq hK => ?_)
            clear eg
            have e21 : act.tmps[21]?.getD undef = .slice (some ⟨b2, o2, none⟩) m.length c2 := hk.v 21 (by kernel_rfl)
            have e22 : act.tmps[22]?.getD undef = .int .i64 (j : Nat) := hk.v 22 (by kernel_rfl)
            clear hk
            go_simp
            exact hK _ _ (Ext.refl _) (fun d hd => by cases hd; rfl)
          · intro act W2 hk
            have eg : act.tmps[16]?.getD undef = .bool false := hk.v 16 (by kernel_rfl)
            refine Flow.does_intro (wanted_yes rfl rfl eg) (fun Kq hK => ?_)
            clear eg
            have e23 : act.tmps[23]?.getD undef = .pointer (some ⟨b2, o2 + j * 2, none⟩) := hk.v 23 (by kernel_rfl)
            have g0 := Ext.cell ((Ext.drew wr).trans hk.ext) ((kcy.out) 0 _ rfl)
            rw [Nat.add_zero] at g0
            have g1 := Ext.cell ((Ext.drew wr).trans hk.ext) ((kcy.out) 1 _ rfl)
            clear hk
            go_simp
            exact hK _ _ (Ext.refl _) (fun d hd => by cases hd; rfl)
          · intro act W2 hk
            have eg : act.tmps[16]?.getD undef = .bool false := hk.v 16 (by kernel_rfl)
            refine Flow.does_intro (wanted_yes rfl rfl eg) (fun Kq hK => ?_)
            clear eg
            have e20 : act.tmps[20]?.getD undef = .agg #[.string x.1, .string x.2] := hk.v 20 (by kernel_rfl)
            have e24 : act.tmps[24]?.getD undef = .agg #[.string y.1, .string y.2] := hk.v 24 (by kernel_rfl)
            clear hk
            skip
            rcases hv.out with q | ⟨q1, q⟩
            all_goals go_simp
            all_goals exact hK _ _ (Ext.refl _) (fun d hd => by cases hd; rfl)
          · intro act W2 hk
            refine Flow.does_intro rfl (fun Kq hK => ?_)
            have e16 : act.tmps[16]?.getD undef = .bool false := hk.v 16 (by kernel_rfl)
            have e25 : act.tmps[25]?.getD undef = .bool true := hk.v 25 (by kernel_rfl)
            clear hk
            go_simp
            exact hK _ _ (Ext.refl _) (fun d hd => by cases hd; rfl)
        · intro act W2 he
          have hxW2 := Hd.mk ((Ext.drew wr).trans he.ext)
          obtain ⟨us, hA, hF⟩ := he.out [12, 13, 14, 15, 16, 17, 18, 19, 20, 21, 22, 23, 24, 25, 26] (by kernel_rfl)
          simp only [Flow.fillL, List.contains_cons, List.contains_nil, Nat.reduceBEq, Bool.or_false, Bool.false_or, Bool.or_true, Bool.true_or, ↓reduceIte, Nat.reduceAdd, Bool.false_eq_true] at hA
          subst hA
          have f26 : us 26 = .bool true := hF 26 (by simp)
          clear hF he
          rw [f26]
          clear f26
          refine (show wpList _ _ _ [] _ _ from ?_)
          go_wp2_with fail
          go_ret
          exact ⟨rfl, hxr.out.trans hxW2.out⟩
  · have hjl : j = m.length := by omega
    subst hjl
    have hr0 : r = true := by rw [hI.out, underJ_end]
    subst hr0
    go_wp2_with fail
    go_ret
    exact ⟨rfl, hxr.out⟩

set_option maxRecDepth 100000 in
set_option maxHeartbeats 4000000 in
theorem ref_under (l : List E) (way : List Step) (S S' : Nat → Prop) (w : World) (K1 A2 : Option Addr) (c1 c2 : Nat) (h1 : ERow S w K1 l c1) (h2 : WRow S' w A2 way c2) :
    Calls Try.prog 46 #[.slice K1 l.length c1, .slice A2 way.length c2] w fun e w' => e = .returned (.int .i64 (countU l way : Nat)) ∧ Ext w w' := by
  have kr1 := Hd.mk h1
  have kr2 := Hd.mk h2
  have hl1 := h1.len
  clear h1 h2
  go_enter Try.func46, Try.ntmps46
  go_wp2_with fail
  go_loopg [5, 6] (l.length + 1) (fun q m i wr => ∃ j : Nat, j ≤ l.length ∧ Hd (q = l.length + 1 - j) ∧ i = .int .i64 j ∧ m = .int .i64 ((countU (l.take j) way : Nat)) ∧ Hd (Ext w wr))
  case atStart => exact ⟨0, by omega, ⟨by omega⟩, rfl, rfl, ⟨Ext.refl _⟩⟩
  case round =>
  obtain ⟨j, hj, hq, rfl, rfl, hxr⟩ := hrel
  by_cases hlt : j < l.length
  · have hx1 := List.getElem?_eq_getElem hlt
    generalize l[j] = x at hx1
    obtain ⟨b1, o1, ck, rfl, _, hrk, hck⟩ := kr1.out.edit j x hx1
    have hct := Hd.mk (countU_take hx1 way)
    have hcl := countU_le (l.take j) way
    have htl : (l.take j).length ≤ 1048576 := by simp; omega
    obtain ⟨A1, a1, K3, k3, L3, l3, rfl, hwr, _⟩ := hrk
    have hcall := Hd.mk (fun W' (h : Ext w W') => ref_underW x.way way S S' W' A1 A2 a1 c2 (hwr.ext h) (kr2.out.ext h))
    obtain ⟨e0, e1, -⟩ := c14C hxr.out hck
    have lt1 := World.block_lt_of_cell? wr _ e0
    clear hck hx1 hwr
    generalize countU (l.take j) way = z at *
    go_wp2_with fail
    refine Calls.mono (hcall.out _ hxr.out) ?_
    rintro e w2 ⟨rfl, hx3⟩
    clear hcall e0 e1
    have hxr3 := Hd.mk (hxr.out.trans hx3)
    clear hx3
    cases hu : underW x.way way with
    | true =>
      go_wp2_with fail
      go_roundg (l.length + 1 - (j + 1))
      case measure => have := hq.out; omega
      case rel => exact ⟨j + 1, by omega, ⟨rfl⟩, by go_num, by rw [hct.out, hu]; go_num, hxr3⟩
    | false =>
      go_wp2_with fail
      go_roundg (l.length + 1 - (j + 1))
      case measure => have := hq.out; omega
      case rel => exact ⟨j + 1, by omega, ⟨rfl⟩, by go_num, by rw [hct.out, hu]; go_num, hxr3⟩
  · have hjl : j = l.length := by omega
    subst hjl
    rw [List.take_length]
    go_wp2_with fail
    go_ret
    exact ⟨rfl, hxr.out⟩
end Go.Proofs.Ytgkgedjmnbjalaa

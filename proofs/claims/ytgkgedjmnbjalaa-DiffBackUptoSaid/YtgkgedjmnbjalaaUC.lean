/- Same of the document's edits, of any two rows.
   Conditions: none. -/
import Derived.Test.YtgkgedjmnbjalaaTV
set_option linter.unusedSimpArgs false
namespace Go.Proofs.Ytgkgedjmnbjalaa
open Go.RowKit Go.Sort

set_option maxRecDepth 100000 in
set_option maxHeartbeats 8000000 in
theorem ref_sameEL (l l' : List E) (S : Nat → Prop) (w : World) (K1 K2 : Option Addr) (c1 c2 : Nat) (hr1 : ERow S w K1 l c1) (hr2 : ERow S w K2 l' c2) :
    Calls Try.prog 39 #[.slice K1 l.length c1, .slice K2 l'.length c2] w fun e w' => e = .returned (.bool (sameEL l l')) ∧ Ext w w' := by
  have kr1 := Hd.mk hr1
  have kr2 := Hd.mk hr2
  have hl2 := hr2.len
  have hl1 := hr1.len
  clear hr1 hr2
  generalize hr : sameEL l l' = r
  by_cases h6 : l.length = l'.length
  · rw [h6]
    replace h6 := Hd.mk h6
    clear hl1
    replace hr := Hd.mk (show r = sameEL (l.drop 0) (l'.drop 0) from hr.symm)
    go_enter Try.func39, Try.ntmps39
    go_wp2_with fail
    go_loopg [5] (l'.length + 1) (fun q i wr => ∃ j : Nat, j ≤ l'.length ∧ Hd (q = l'.length + 1 - j) ∧ i = .int .i64 j ∧ Hd (r = sameEL (l.drop j) (l'.drop j)) ∧ Hd (Ext w wr))
    case atStart => exact ⟨0, by omega, ⟨by omega⟩, rfl, hr, ⟨Ext.refl _⟩⟩
    case round =>
    obtain ⟨j, hj, hq, rfl, hI, hxr⟩ := hrel
    by_cases hlt : j < l'.length
    · have hlt1 : j < l.length := by have := h6.out; omega
      have hx1 := List.getElem?_eq_getElem hlt1
      have hx2 := List.getElem?_eq_getElem hlt
      generalize l[j] = x at hx1
      generalize l'[j] = y at hx2
      obtain ⟨b1, o1, d1, rfl, _, hre1, hck⟩ := kr1.out.edit j x hx1
      obtain ⟨b2, o2, d2, rfl, _, hre2, hdk⟩ := kr2.out.edit j y hx2
      have hdrop := Hd.mk (sameEL_drop hx1 hx2)
      obtain ⟨A3, a3, K3, k3, L3, l3, rfl, hw3, hn3, ho3⟩ := hre1
      obtain ⟨A4, a4, K4, k4, L4, l4, rfl, hw4, hn4, ho4⟩ := hre2
      have kcx := Hd.mk (fun (q : Nat) u hq => Ext.cell hxr.out (hck q u hq))
      have kcy := Hd.mk (fun (q : Nat) u hq => Ext.cell hxr.out (hdk q u hq))
      have hst := Hd.mk (fun W (h : Ext w W) => ref_steps x.way y.way _ W A3 A4 a3 a4 (hw3.ext h) (hw4.ext h))
      have hsn := Hd.mk (fun W (h : Ext w W) => ref_same x.node.deep x.node y.node _ W _ _ (Nat.le_refl _) ((RT.of_row hn3).ext h) ((RT.of_row hn4).ext h))
      have hso := Hd.mk (fun W (h : Ext w W) => ref_same x.old.deep x.old y.old _ W _ _ (Nat.le_refl _) ((RT.of_row ho3).ext h) ((RT.of_row ho4).ext h))
      have hse : sameE x y = (decide (x.kind = y.kind) && (decide (x.way = y.way) && (sameT x.node y.node && sameT x.old y.old))) := rfl
      clear hck hdk hx1 hx2 hw3 hn3 ho3 hw4 hn4 ho4
      simp only [cT, List.cons_append, List.nil_append] at kcx kcy hsn hso
      generalize decide (x.way = y.way) = bw at *
      generalize sameT x.node y.node = bn at *
      generalize sameT x.old y.old = bo at *
      replace hse := Hd.mk hse
      go_wp2_with fail
      refine Flow.wp_region_flow_l (fun qq => match qq with
        | 20 => SP.eq (.slice (some ⟨b1, o1, none⟩) l'.length c1)
        | 21 => SP.eq (.int .i64 (j : Nat))
        | 22 => SP.eq (.pointer (some ⟨b1, o1 + j * 14, none⟩))
        | 23 => SP.eq (.pointer (some ⟨b1, o1 + j * 14 + 1, none⟩))
        | 24 => SP.eq (.slice A3 x.way.length a3)
        | 25 => SP.eq (.slice (some ⟨b2, o2, none⟩) l'.length c2)
        | 26 => SP.eq (.int .i64 (j : Nat))
        | 27 => SP.eq (.pointer (some ⟨b2, o2 + j * 14, none⟩))
        | 28 => SP.eq (.pointer (some ⟨b2, o2 + j * 14 + 1, none⟩))
        | 29 => SP.eq (.slice A4 y.way.length a4)
        | 30 => SP.eq (.bool bw)
        | 6 => SP.eq (.bool bw)
        | _ => SP.any) 12 (by kernel_rfl) 76 rfl (by kernel_rfl) ?_ ?_
      · skip
        refine ⟨?_, ?_, ?_, ?_, ?_, ?_, ?_, ?_, ?_, ?_, ?_, ?_, trivial⟩
        · intro act W2 hk
          refine Flow.does_intro rfl (fun Kq hK => ?_)
          have e0 : act.tmps[0]?.getD undef = .slice (some ⟨b1, o1, none⟩) l'.length c1 := hk.o 0 (by kernel_rfl)
          clear hk
          go_simp
          exact hK _ _ (Ext.refl _) (fun d hd => by cases hd; rfl)
        · intro act W2 hk
          refine Flow.does_intro rfl (fun Kq hK => ?_)
          have e5 : act.tmps[5]?.getD undef = .int .i64 (j : Nat) := hk.o 5 (by kernel_rfl)
          clear hk
          go_simp
          exact hK _ _ (Ext.refl _) (fun d hd => by cases hd; rfl)
        · intro act W2 hk
          refine Flow.does_intro rfl (fun Kq hK => ?_)
          have e20 : act.tmps[20]?.getD undef = .slice (some ⟨b1, o1, none⟩) l'.length c1 := hk.v 20 (by kernel_rfl)
          have e21 : act.tmps[21]?.getD undef = .int .i64 (j : Nat) := hk.v 21 (by kernel_rfl)
          clear hk
          go_simp
          exact hK _ _ (Ext.refl _) (fun d hd => by cases hd; rfl)
        · intro act W2 hk
          refine Flow.does_intro rfl (fun Kq hK => ?_)
          have e22 : act.tmps[22]?.getD undef = .pointer (some ⟨b1, o1 + j * 14, none⟩) := hk.v 22 (by kernel_rfl)
          clear hk
          go_simp
          exact hK _ _ (Ext.refl _) (fun d hd => by cases hd; rfl)
        · intro act W2 hk
          refine Flow.does_intro rfl (fun Kq hK => ?_)
          have e23 : act.tmps[23]?.getD undef = .pointer (some ⟨b1, o1 + j * 14 + 1, none⟩) := hk.v 23 (by kernel_rfl)
          have g1 := Ext.cell ((Ext.drew wr).trans hk.ext) ((kcx.out) 1 _ rfl)
          clear hk
          go_simp
          exact hK _ _ (Ext.refl _) (fun d hd => by cases hd; rfl)
        · intro act W2 hk
          refine Flow.does_intro rfl (fun Kq hK => ?_)
          have e1 : act.tmps[1]?.getD undef = .slice (some ⟨b2, o2, none⟩) l'.length c2 := hk.o 1 (by kernel_rfl)
          clear hk
          go_simp
          exact hK _ _ (Ext.refl _) (fun d hd => by cases hd; rfl)
        · intro act W2 hk
          refine Flow.does_intro rfl (fun Kq hK => ?_)
          have e5 : act.tmps[5]?.getD undef = .int .i64 (j : Nat) := hk.o 5 (by kernel_rfl)
          clear hk
          go_simp
          exact hK _ _ (Ext.refl _) (fun d hd => by cases hd; rfl)
        · intro act W2 hk
          refine Flow.does_intro rfl (fun Kq hK => ?_)
          have e25 : act.tmps[25]?.getD undef = .slice (some ⟨b2, o2, none⟩) l'.length c2 := hk.v 25 (by kernel_rfl)
          have e26 : act.tmps[26]?.getD undef = .int .i64 (j : Nat) := hk.v 26 (by kernel_rfl)
          clear hk
          go_simp
          exact hK _ _ (Ext.refl _) (fun d hd => by cases hd; rfl)
        · intro act W2 hk
          refine Flow.does_intro rfl (fun Kq hK => ?_)
          have e27 : act.tmps[27]?.getD undef = .pointer (some ⟨b2, o2 + j * 14, none⟩) := hk.v 27 (by kernel_rfl)
          clear hk
          go_simp
          exact hK _ _ (Ext.refl _) (fun d hd => by cases hd; rfl)
        · intro act W2 hk
          refine Flow.does_intro rfl (fun Kq hK => ?_)
          have e28 : act.tmps[28]?.getD undef = .pointer (some ⟨b2, o2 + j * 14 + 1, none⟩) := hk.v 28 (by kernel_rfl)
          have g1 := Ext.cell ((Ext.drew wr).trans hk.ext) ((kcy.out) 1 _ rfl)
          clear hk
          go_simp
          exact hK _ _ (Ext.refl _) (fun d hd => by cases hd; rfl)
        · intro act W2 hk
          refine Flow.does_intro rfl (fun Kq hK => ?_)
          have e24 : act.tmps[24]?.getD undef = .slice A3 x.way.length a3 := hk.v 24 (by kernel_rfl)
          have e29 : act.tmps[29]?.getD undef = .slice A4 y.way.length a4 := hk.v 29 (by kernel_rfl)
          have hx0 := Hd.mk ((Ext.drew wr).trans hk.ext)
          clear hk
          go_simp
          refine Calls.mono (hst.out _ (hxr.out.trans hx0.out)) ?_
          rintro e W3 ⟨rfl, hx⟩
          exact hK _ _ hx (fun d hd => by cases hd; rfl)
        · intro act W2 hk
          refine Flow.does_intro rfl (fun Kq hK => ?_)
          have e30 : act.tmps[30]?.getD undef = .bool bw := hk.v 30 (by kernel_rfl)
          clear hk
          go_simp
          exact hK _ _ (Ext.refl _) (fun d hd => by cases hd; rfl)
      · intro act V1 he
        have hxV1 := Hd.mk ((Ext.drew wr).trans he.ext)
        obtain ⟨us, hA, hF⟩ := he.out [20, 21, 22, 23, 24, 25, 26, 27, 28, 29, 30, 6] (by kernel_rfl)
        simp only [Flow.fillL, List.contains_cons, List.contains_nil, Nat.reduceBEq, Bool.or_false, Bool.false_or, Bool.or_true, Bool.true_or, ↓reduceIte, Nat.reduceAdd, Bool.false_eq_true] at hA
        subst hA
        have f6 : us 6 = .bool bw := hF 6 (by simp)
        clear hF he
        rw [f6]
        clear f6
        have hx1 := Hd.mk (hxr.out.trans hxV1.out)
        have kcx1 := Hd.mk (fun (q : Nat) u hq => Ext.cell hxV1.out (kcx.out q u hq))
        have kcy1 := Hd.mk (fun (q : Nat) u hq => Ext.cell hxV1.out (kcy.out q u hq))
        refine (show wpList _ _ _ [] _ _ from ?_)
        go_wp2_with fail
        refine Flow.wp_region_flow_l (fun qq => match qq with
          | 31 => SP.eq (.slice (some ⟨b1, o1, none⟩) l'.length c1)
          | 32 => SP.eq (.int .i64 (j : Nat))
          | 33 => SP.eq (.pointer (some ⟨b1, o1 + j * 14, none⟩))
          | 34 => SP.eq (.pointer (some ⟨b1, o1 + j * 14 + 2, none⟩))
          | 35 => SP.eq (.agg #[.string x.node.name, .string x.node.key, .int .i64 x.node.kind, .int .u64 x.node.num, .string x.node.text, .slice K3 x.node.kids.length k3])
          | 36 => SP.eq (.slice (some ⟨b2, o2, none⟩) l'.length c2)
          | 37 => SP.eq (.int .i64 (j : Nat))
          | 38 => SP.eq (.pointer (some ⟨b2, o2 + j * 14, none⟩))
          | 39 => SP.eq (.pointer (some ⟨b2, o2 + j * 14 + 2, none⟩))
          | 40 => SP.eq (.agg #[.string y.node.name, .string y.node.key, .int .i64 y.node.kind, .int .u64 y.node.num, .string y.node.text, .slice K4 y.node.kids.length k4])
          | 41 => SP.eq (.bool bn)
          | 7 => SP.eq (.bool bn)
          | _ => SP.any) 12 (by kernel_rfl) 76 rfl (by kernel_rfl) ?_ ?_
        · skip
          refine ⟨?_, ?_, ?_, ?_, ?_, ?_, ?_, ?_, ?_, ?_, ?_, ?_, trivial⟩
          · intro act W2 hk
            refine Flow.does_intro rfl (fun Kq hK => ?_)
            have e0 : act.tmps[0]?.getD undef = .slice (some ⟨b1, o1, none⟩) l'.length c1 := hk.o 0 (by kernel_rfl)
            clear hk
            go_simp
            exact hK _ _ (Ext.refl _) (fun d hd => by cases hd; rfl)
          · intro act W2 hk
            refine Flow.does_intro rfl (fun Kq hK => ?_)
            have e5 : act.tmps[5]?.getD undef = .int .i64 (j : Nat) := hk.o 5 (by kernel_rfl)
            clear hk
            go_simp
            exact hK _ _ (Ext.refl _) (fun d hd => by cases hd; rfl)
          · intro act W2 hk
            refine Flow.does_intro rfl (fun Kq hK => ?_)
            have e31 : act.tmps[31]?.getD undef = .slice (some ⟨b1, o1, none⟩) l'.length c1 := hk.v 31 (by kernel_rfl)
            have e32 : act.tmps[32]?.getD undef = .int .i64 (j : Nat) := hk.v 32 (by kernel_rfl)
            clear hk
            go_simp
            exact hK _ _ (Ext.refl _) (fun d hd => by cases hd; rfl)
          · intro act W2 hk
            refine Flow.does_intro rfl (fun Kq hK => ?_)
            have e33 : act.tmps[33]?.getD undef = .pointer (some ⟨b1, o1 + j * 14, none⟩) := hk.v 33 (by kernel_rfl)
            clear hk
            go_simp
            exact hK _ _ (Ext.refl _) (fun d hd => by cases hd; rfl)
          · intro act W2 hk
            refine Flow.does_intro rfl (fun Kq hK => ?_)
            have e34 : act.tmps[34]?.getD undef = .pointer (some ⟨b1, o1 + j * 14 + 2, none⟩) := hk.v 34 (by kernel_rfl)
            have g2 := Ext.cell ((Ext.drew V1).trans hk.ext) ((kcx1.out) 2 _ rfl)
            have g3 := Ext.cell ((Ext.drew V1).trans hk.ext) ((kcx1.out) 3 _ rfl)
            have g4 := Ext.cell ((Ext.drew V1).trans hk.ext) ((kcx1.out) 4 _ rfl)
            have g5 := Ext.cell ((Ext.drew V1).trans hk.ext) ((kcx1.out) 5 _ rfl)
            have g6 := Ext.cell ((Ext.drew V1).trans hk.ext) ((kcx1.out) 6 _ rfl)
            have g7 := Ext.cell ((Ext.drew V1).trans hk.ext) ((kcx1.out) 7 _ rfl)
            clear hk
            go_simp
            exact hK _ _ (Ext.refl _) (fun d hd => by cases hd; rfl)
          · intro act W2 hk
            refine Flow.does_intro rfl (fun Kq hK => ?_)
            have e1 : act.tmps[1]?.getD undef = .slice (some ⟨b2, o2, none⟩) l'.length c2 := hk.o 1 (by kernel_rfl)
            clear hk
            go_simp
            exact hK _ _ (Ext.refl _) (fun d hd => by cases hd; rfl)
          · intro act W2 hk
            refine Flow.does_intro rfl (fun Kq hK => ?_)
            have e5 : act.tmps[5]?.getD undef = .int .i64 (j : Nat) := hk.o 5 (by kernel_rfl)
            clear hk
            go_simp
            exact hK _ _ (Ext.refl _) (fun d hd => by cases hd; rfl)
          · intro act W2 hk
            refine Flow.does_intro rfl (fun Kq hK => ?_)
            have e36 : act.tmps[36]?.getD undef = .slice (some ⟨b2, o2, none⟩) l'.length c2 := hk.v 36 (by kernel_rfl)
            have e37 : act.tmps[37]?.getD undef = .int .i64 (j : Nat) := hk.v 37 (by kernel_rfl)
            clear hk
            go_simp
            exact hK _ _ (Ext.refl _) (fun d hd => by cases hd; rfl)
          · intro act W2 hk
            refine Flow.does_intro rfl (fun Kq hK => ?_)
            have e38 : act.tmps[38]?.getD undef = .pointer (some ⟨b2, o2 + j * 14, none⟩) := hk.v 38 (by kernel_rfl)
            clear hk
            go_simp
            exact hK _ _ (Ext.refl _) (fun d hd => by cases hd; rfl)
          · intro act W2 hk
            refine Flow.does_intro rfl (fun Kq hK => ?_)
            have e39 : act.tmps[39]?.getD undef = .pointer (some ⟨b2, o2 + j * 14 + 2, none⟩) := hk.v 39 (by kernel_rfl)
            have g2 := Ext.cell ((Ext.drew V1).trans hk.ext) ((kcy1.out) 2 _ rfl)
            have g3 := Ext.cell ((Ext.drew V1).trans hk.ext) ((kcy1.out) 3 _ rfl)
            have g4 := Ext.cell ((Ext.drew V1).trans hk.ext) ((kcy1.out) 4 _ rfl)
            have g5 := Ext.cell ((Ext.drew V1).trans hk.ext) ((kcy1.out) 5 _ rfl)
            have g6 := Ext.cell ((Ext.drew V1).trans hk.ext) ((kcy1.out) 6 _ rfl)
            have g7 := Ext.cell ((Ext.drew V1).trans hk.ext) ((kcy1.out) 7 _ rfl)
            clear hk
            go_simp
            exact hK _ _ (Ext.refl _) (fun d hd => by cases hd; rfl)
          · intro act W2 hk
            refine Flow.does_intro rfl (fun Kq hK => ?_)
            have e35 : act.tmps[35]?.getD undef = .agg #[.string x.node.name, .string x.node.key, .int .i64 x.node.kind, .int .u64 x.node.num, .string x.node.text, .slice K3 x.node.kids.length k3] := hk.v 35 (by kernel_rfl)
            have e40 : act.tmps[40]?.getD undef = .agg #[.string y.node.name, .string y.node.key, .int .i64 y.node.kind, .int .u64 y.node.num, .string y.node.text, .slice K4 y.node.kids.length k4] := hk.v 40 (by kernel_rfl)
            have hx0 := Hd.mk ((Ext.drew V1).trans hk.ext)
            clear hk
            go_simp
            refine Calls.mono (hsn.out _ (hx1.out.trans hx0.out)) ?_
            rintro e W3 ⟨rfl, hx⟩
            exact hK _ _ hx (fun d hd => by cases hd; rfl)
          · intro act W2 hk
            refine Flow.does_intro rfl (fun Kq hK => ?_)
            have e41 : act.tmps[41]?.getD undef = .bool bn := hk.v 41 (by kernel_rfl)
            clear hk
            go_simp
            exact hK _ _ (Ext.refl _) (fun d hd => by cases hd; rfl)
        · intro act V2 he
          have hxV2 := Hd.mk ((Ext.drew V1).trans he.ext)
          obtain ⟨us, hA, hF⟩ := he.out [31, 32, 33, 34, 35, 36, 37, 38, 39, 40, 41, 7] (by kernel_rfl)
          simp only [Flow.fillL, List.contains_cons, List.contains_nil, Nat.reduceBEq, Bool.or_false, Bool.false_or, Bool.or_true, Bool.true_or, ↓reduceIte, Nat.reduceAdd, Bool.false_eq_true] at hA
          subst hA
          have f7 : us 7 = .bool bn := hF 7 (by simp)
          clear hF he
          rw [f7]
          clear f7
          have hx2 := Hd.mk (hx1.out.trans hxV2.out)
          have kcx2 := Hd.mk (fun (q : Nat) u hq => Ext.cell hxV2.out (kcx1.out q u hq))
          have kcy2 := Hd.mk (fun (q : Nat) u hq => Ext.cell hxV2.out (kcy1.out q u hq))
          refine (show wpList _ _ _ [] _ _ from ?_)
          go_wp2_with fail
          refine Flow.wp_region_flow_l (fun qq => match qq with
            | 42 => SP.eq (.slice (some ⟨b1, o1, none⟩) l'.length c1)
            | 43 => SP.eq (.int .i64 (j : Nat))
            | 44 => SP.eq (.pointer (some ⟨b1, o1 + j * 14, none⟩))
            | 45 => SP.eq (.pointer (some ⟨b1, o1 + j * 14 + 8, none⟩))
            | 46 => SP.eq (.agg #[.string x.old.name, .string x.old.key, .int .i64 x.old.kind, .int .u64 x.old.num, .string x.old.text, .slice L3 x.old.kids.length l3])
            | 47 => SP.eq (.slice (some ⟨b2, o2, none⟩) l'.length c2)
            | 48 => SP.eq (.int .i64 (j : Nat))
            | 49 => SP.eq (.pointer (some ⟨b2, o2 + j * 14, none⟩))
            | 50 => SP.eq (.pointer (some ⟨b2, o2 + j * 14 + 8, none⟩))
            | 51 => SP.eq (.agg #[.string y.old.name, .string y.old.key, .int .i64 y.old.kind, .int .u64 y.old.num, .string y.old.text, .slice L4 y.old.kids.length l4])
            | 52 => SP.eq (.bool bo)
            | 8 => SP.eq (.bool bo)
            | _ => SP.any) 12 (by kernel_rfl) 76 rfl (by kernel_rfl) ?_ ?_
          · skip
            refine ⟨?_, ?_, ?_, ?_, ?_, ?_, ?_, ?_, ?_, ?_, ?_, ?_, trivial⟩
            · intro act W2 hk
              refine Flow.does_intro rfl (fun Kq hK => ?_)
              have e0 : act.tmps[0]?.getD undef = .slice (some ⟨b1, o1, none⟩) l'.length c1 := hk.o 0 (by kernel_rfl)
              clear hk
              go_simp
              exact hK _ _ (Ext.refl _) (fun d hd => by cases hd; rfl)
            · intro act W2 hk
              refine Flow.does_intro rfl (fun Kq hK => ?_)
              have e5 : act.tmps[5]?.getD undef = .int .i64 (j : Nat) := hk.o 5 (by kernel_rfl)
              clear hk
              go_simp
              exact hK _ _ (Ext.refl _) (fun d hd => by cases hd; rfl)
            · intro act W2 hk
              refine Flow.does_intro rfl (fun Kq hK => ?_)
              have e42 : act.tmps[42]?.getD undef = .slice (some ⟨b1, o1, none⟩) l'.length c1 := hk.v 42 (by kernel_rfl)
              have e43 : act.tmps[43]?.getD undef = .int .i64 (j : Nat) := hk.v 43 (by kernel_rfl)
              clear hk
              go_simp
              exact hK _ _ (Ext.refl _) (fun d hd => by cases hd; rfl)
            · intro act W2 hk
              refine Flow.does_intro rfl (fun Kq hK => ?_)
              have e44 : act.tmps[44]?.getD undef = .pointer (some ⟨b1, o1 + j * 14, none⟩) := hk.v 44 (by kernel_rfl)
              clear hk
              go_simp
              exact hK _ _ (Ext.refl _) (fun d hd => by cases hd; rfl)
            · intro act W2 hk
              refine Flow.does_intro rfl (fun Kq hK => ?_)
              have e45 : act.tmps[45]?.getD undef = .pointer (some ⟨b1, o1 + j * 14 + 8, none⟩) := hk.v 45 (by kernel_rfl)
              have g8 := Ext.cell ((Ext.drew V2).trans hk.ext) ((kcx2.out) 8 _ rfl)
              have g9 := Ext.cell ((Ext.drew V2).trans hk.ext) ((kcx2.out) 9 _ rfl)
              have g10 := Ext.cell ((Ext.drew V2).trans hk.ext) ((kcx2.out) 10 _ rfl)
              have g11 := Ext.cell ((Ext.drew V2).trans hk.ext) ((kcx2.out) 11 _ rfl)
              have g12 := Ext.cell ((Ext.drew V2).trans hk.ext) ((kcx2.out) 12 _ rfl)
              have g13 := Ext.cell ((Ext.drew V2).trans hk.ext) ((kcx2.out) 13 _ rfl)
              clear hk
              go_simp
              exact hK _ _ (Ext.refl _) (fun d hd => by cases hd; rfl)
            · intro act W2 hk
              refine Flow.does_intro rfl (fun Kq hK => ?_)
              have e1 : act.tmps[1]?.getD undef = .slice (some ⟨b2, o2, none⟩) l'.length c2 := hk.o 1 (by kernel_rfl)
              clear hk
              go_simp
              exact hK _ _ (Ext.refl _) (fun d hd => by cases hd; rfl)
            · intro act W2 hk
              refine Flow.does_intro rfl (fun Kq hK => ?_)
              have e5 : act.tmps[5]?.getD undef = .int .i64 (j : Nat) := hk.o 5 (by kernel_rfl)
              clear hk
              go_simp
              exact hK _ _ (Ext.refl _) (fun d hd => by cases hd; rfl)
            · intro act W2 hk
              refine Flow.does_intro rfl (fun Kq hK => ?_)
              have e47 : act.tmps[47]?.getD undef = .slice (some ⟨b2, o2, none⟩) l'.length c2 := hk.v 47 (by kernel_rfl)
              have e48 : act.tmps[48]?.getD undef = .int .i64 (j : Nat) := hk.v 48 (by kernel_rfl)
              clear hk
              go_simp
              exact hK _ _ (Ext.refl _) (fun d hd => by cases hd; rfl)
            · intro act W2 hk
              refine Flow.does_intro rfl (fun Kq hK => ?_)
              have e49 : act.tmps[49]?.getD undef = .pointer (some ⟨b2, o2 + j * 14, none⟩) := hk.v 49 (by kernel_rfl)
              clear hk
              go_simp
              exact hK _ _ (Ext.refl _) (fun d hd => by cases hd; rfl)
            · intro act W2 hk
              refine Flow.does_intro rfl (fun Kq hK => ?_)
              have e50 : act.tmps[50]?.getD undef = .pointer (some ⟨b2, o2 + j * 14 + 8, none⟩) := hk.v 50 (by kernel_rfl)
              have g8 := Ext.cell ((Ext.drew V2).trans hk.ext) ((kcy2.out) 8 _ rfl)
              have g9 := Ext.cell ((Ext.drew V2).trans hk.ext) ((kcy2.out) 9 _ rfl)
              have g10 := Ext.cell ((Ext.drew V2).trans hk.ext) ((kcy2.out) 10 _ rfl)
              have g11 := Ext.cell ((Ext.drew V2).trans hk.ext) ((kcy2.out) 11 _ rfl)
              have g12 := Ext.cell ((Ext.drew V2).trans hk.ext) ((kcy2.out) 12 _ rfl)
              have g13 := Ext.cell ((Ext.drew V2).trans hk.ext) ((kcy2.out) 13 _ rfl)
              clear hk
              go_simp
              exact hK _ _ (Ext.refl _) (fun d hd => by cases hd; rfl)
            · intro act W2 hk
              refine Flow.does_intro rfl (fun Kq hK => ?_)
              have e46 : act.tmps[46]?.getD undef = .agg #[.string x.old.name, .string x.old.key, .int .i64 x.old.kind, .int .u64 x.old.num, .string x.old.text, .slice L3 x.old.kids.length l3] := hk.v 46 (by kernel_rfl)
              have e51 : act.tmps[51]?.getD undef = .agg #[.string y.old.name, .string y.old.key, .int .i64 y.old.kind, .int .u64 y.old.num, .string y.old.text, .slice L4 y.old.kids.length l4] := hk.v 51 (by kernel_rfl)
              have hx0 := Hd.mk ((Ext.drew V2).trans hk.ext)
              clear hk
              go_simp
              refine Calls.mono (hso.out _ (hx2.out.trans hx0.out)) ?_
              rintro e W3 ⟨rfl, hx⟩
              exact hK _ _ hx (fun d hd => by cases hd; rfl)
            · intro act W2 hk
              refine Flow.does_intro rfl (fun Kq hK => ?_)
              have e52 : act.tmps[52]?.getD undef = .bool bo := hk.v 52 (by kernel_rfl)
              clear hk
              go_simp
              exact hK _ _ (Ext.refl _) (fun d hd => by cases hd; rfl)
          · intro act V3 he
            have hxV3 := Hd.mk ((Ext.drew V2).trans he.ext)
            obtain ⟨us, hA, hF⟩ := he.out [42, 43, 44, 45, 46, 47, 48, 49, 50, 51, 52, 8] (by kernel_rfl)
            simp only [Flow.fillL, List.contains_cons, List.contains_nil, Nat.reduceBEq, Bool.or_false, Bool.false_or, Bool.or_true, Bool.true_or, ↓reduceIte, Nat.reduceAdd, Bool.false_eq_true] at hA
            subst hA
            have f8 : us 8 = .bool bo := hF 8 (by simp)
            clear hF he
            rw [f8]
            clear f8
            have hx3 := Hd.mk (hx2.out.trans hxV3.out)
            have kcx3 := Hd.mk (fun (q : Nat) u hq => Ext.cell hxV3.out (kcx2.out q u hq))
            have kcy3 := Hd.mk (fun (q : Nat) u hq => Ext.cell hxV3.out (kcy2.out q u hq))
            refine (show wpList _ _ _ [] _ _ from ?_)
            go_wp2_with fail
            by_cases hkk : x.kind = y.kind
            · cases bw with
              | false =>
                have hr0 : r = false := by rw [hI.out, hdrop.out, hse.out]; simp
                subst hr0
                refine Flow.wp_region_flow_l (fun qq => match qq with
                  | 53 => SP.eq (.slice (some ⟨b1, o1, none⟩) l'.length c1)
                  | 54 => SP.eq (.int .i64 (j : Nat))
                  | 55 => SP.eq (.pointer (some ⟨b1, o1 + j * 14, none⟩))
                  | 56 => SP.eq (.pointer (some ⟨b1, o1 + j * 14, none⟩))
                  | 57 => SP.eq (.int .i64 x.kind)
                  | 58 => SP.eq (.slice (some ⟨b2, o2, none⟩) l'.length c2)
                  | 59 => SP.eq (.int .i64 (j : Nat))
                  | 60 => SP.eq (.pointer (some ⟨b2, o2 + j * 14, none⟩))
                  | 61 => SP.eq (.pointer (some ⟨b2, o2 + j * 14, none⟩))
                  | 62 => SP.eq (.int .i64 y.kind)
                  | 63 => SP.eq (.bool false)
                  | 64 => SP.eq (.bool false)
                  | 65 => SP.eq (.bool false)
                  | 66 => SP.eq (.bool true)
                  | 67 => SP.eq (.bool true)
                  | 68 => SP.eq (.bool true)
                  | 69 => SP.eq (undef)
                  | 70 => SP.eq (undef)
                  | 71 => SP.eq (.bool true)
                  | 72 => SP.eq (.bool true)
                  | 73 => SP.eq (undef)
                  | 74 => SP.eq (undef)
                  | 75 => SP.eq (.bool true)
                  | _ => SP.any) 23 (by kernel_rfl) 76 rfl (by kernel_rfl) ?_ ?_
                · skip
                  refine ⟨?_, ?_, ?_, ?_, ?_, ?_, ?_, ?_, ?_, ?_, ?_, ?_, ?_, ?_, ?_, ?_, ?_, ?_, ?_, ?_, ?_, ?_, ?_, trivial⟩
                  · intro act W2 hk
                    refine Flow.does_intro rfl (fun Kq hK => ?_)
                    have e0 : act.tmps[0]?.getD undef = .slice (some ⟨b1, o1, none⟩) l'.length c1 := hk.o 0 (by kernel_rfl)
                    clear hk
                    go_simp
                    exact hK _ _ (Ext.refl _) (fun d hd => by cases hd; rfl)
                  · intro act W2 hk
                    refine Flow.does_intro rfl (fun Kq hK => ?_)
                    have e5 : act.tmps[5]?.getD undef = .int .i64 (j : Nat) := hk.o 5 (by kernel_rfl)
                    clear hk
                    go_simp
                    exact hK _ _ (Ext.refl _) (fun d hd => by cases hd; rfl)
                  · intro act W2 hk
                    refine Flow.does_intro rfl (fun Kq hK => ?_)
                    have e53 : act.tmps[53]?.getD undef = .slice (some ⟨b1, o1, none⟩) l'.length c1 := hk.v 53 (by kernel_rfl)
                    have e54 : act.tmps[54]?.getD undef = .int .i64 (j : Nat) := hk.v 54 (by kernel_rfl)
                    clear hk
                    go_simp
                    exact hK _ _ (Ext.refl _) (fun d hd => by cases hd; rfl)
                  · intro act W2 hk
                    refine Flow.does_intro rfl (fun Kq hK => ?_)
                    have e55 : act.tmps[55]?.getD undef = .pointer (some ⟨b1, o1 + j * 14, none⟩) := hk.v 55 (by kernel_rfl)
                    clear hk
                    go_simp
                    exact hK _ _ (Ext.refl _) (fun d hd => by cases hd; rfl)
                  · intro act W2 hk
                    refine Flow.does_intro rfl (fun Kq hK => ?_)
                    have e56 : act.tmps[56]?.getD undef = .pointer (some ⟨b1, o1 + j * 14, none⟩) := hk.v 56 (by kernel_rfl)
                    have g0 := Ext.cell ((Ext.drew V3).trans hk.ext) ((kcx3.out) 0 _ rfl)
                    rw [Nat.add_zero] at g0
                    clear hk
                    go_simp
                    exact hK _ _ (Ext.refl _) (fun d hd => by cases hd; first | rfl | (simp [SP.eq]; omega) | (simp [SP.eq, hkk]))
                  · intro act W2 hk
                    refine Flow.does_intro rfl (fun Kq hK => ?_)
                    have e1 : act.tmps[1]?.getD undef = .slice (some ⟨b2, o2, none⟩) l'.length c2 := hk.o 1 (by kernel_rfl)
                    clear hk
                    go_simp
                    exact hK _ _ (Ext.refl _) (fun d hd => by cases hd; rfl)
                  · intro act W2 hk
                    refine Flow.does_intro rfl (fun Kq hK => ?_)
                    have e5 : act.tmps[5]?.getD undef = .int .i64 (j : Nat) := hk.o 5 (by kernel_rfl)
                    clear hk
                    go_simp
                    exact hK _ _ (Ext.refl _) (fun d hd => by cases hd; rfl)
                  · intro act W2 hk
                    refine Flow.does_intro rfl (fun Kq hK => ?_)
                    have e58 : act.tmps[58]?.getD undef = .slice (some ⟨b2, o2, none⟩) l'.length c2 := hk.v 58 (by kernel_rfl)
                    have e59 : act.tmps[59]?.getD undef = .int .i64 (j : Nat) := hk.v 59 (by kernel_rfl)
                    clear hk
                    go_simp
                    exact hK _ _ (Ext.refl _) (fun d hd => by cases hd; rfl)
                  · intro act W2 hk
                    refine Flow.does_intro rfl (fun Kq hK => ?_)
                    have e60 : act.tmps[60]?.getD undef = .pointer (some ⟨b2, o2 + j * 14, none⟩) := hk.v 60 (by kernel_rfl)
                    clear hk
                    go_simp
                    exact hK _ _ (Ext.refl _) (fun d hd => by cases hd; rfl)
                  · intro act W2 hk
                    refine Flow.does_intro rfl (fun Kq hK => ?_)
                    have e61 : act.tmps[61]?.getD undef = .pointer (some ⟨b2, o2 + j * 14, none⟩) := hk.v 61 (by kernel_rfl)
                    have g0 := Ext.cell ((Ext.drew V3).trans hk.ext) ((kcy3.out) 0 _ rfl)
                    rw [Nat.add_zero] at g0
                    clear hk
                    go_simp
                    exact hK _ _ (Ext.refl _) (fun d hd => by cases hd; first | rfl | (simp [SP.eq]; omega) | (simp [SP.eq, hkk]))
                  · intro act W2 hk
                    refine Flow.does_intro rfl (fun Kq hK => ?_)
                    have e57 : act.tmps[57]?.getD undef = .int .i64 x.kind := hk.v 57 (by kernel_rfl)
                    have e62 : act.tmps[62]?.getD undef = .int .i64 y.kind := hk.v 62 (by kernel_rfl)
                    clear hk
                    go_simp
                    exact hK _ _ (Ext.refl _) (fun d hd => by cases hd; first | rfl | (simp [SP.eq]; omega) | (simp [SP.eq, hkk]))
                  · intro act W2 hk
                    refine Flow.does_intro rfl (fun Kq hK => ?_)
                    have e63 : act.tmps[63]?.getD undef = .bool false := hk.v 63 (by kernel_rfl)
                    clear hk
                    go_simp
                    exact hK _ _ (Ext.refl _) (fun d hd => by cases hd; rfl)
                  · intro act W2 hk
                    have eg : act.tmps[64]?.getD undef = .bool false := hk.v 64 (by kernel_rfl)
                    refine Flow.does_intro (wanted_yes rfl rfl eg) (fun Kq hK => ?_)
                    clear eg
                    have e6 : act.tmps[6]?.getD undef = .bool false := hk.o 6 (by kernel_rfl)
                    clear hk
                    go_simp
                    exact hK _ _ (Ext.refl _) (fun d hd => by cases hd; rfl)
                  · intro act W2 hk
                    have eg : act.tmps[64]?.getD undef = .bool false := hk.v 64 (by kernel_rfl)
                    refine Flow.does_intro (wanted_yes rfl rfl eg) (fun Kq hK => ?_)
                    clear eg
                    have e65 : act.tmps[65]?.getD undef = .bool false := hk.v 65 (by kernel_rfl)
                    clear hk
                    go_simp
                    exact hK _ _ (Ext.refl _) (fun d hd => by cases hd; rfl)
                  · intro act W2 hk
                    refine Flow.does_intro rfl (fun Kq hK => ?_)
                    have e64 : act.tmps[64]?.getD undef = .bool false := hk.v 64 (by kernel_rfl)
                    have e66 : act.tmps[66]?.getD undef = .bool true := hk.v 66 (by kernel_rfl)
                    clear hk
                    go_simp
                    exact hK _ _ (Ext.refl _) (fun d hd => by cases hd; rfl)
                  · intro act W2 hk
                    refine Flow.does_intro rfl (fun Kq hK => ?_)
                    have e67 : act.tmps[67]?.getD undef = .bool true := hk.v 67 (by kernel_rfl)
                    clear hk
                    go_simp
                    exact hK _ _ (Ext.refl _) (fun d hd => by cases hd; rfl)
                  · intro act W2 hk
                    have eg : act.tmps[68]?.getD undef = .bool true := hk.v 68 (by kernel_rfl)
                    exact Flow.does_skip (wanted_no rfl rfl eg) (fun d hd => by cases hd; rfl)
                  · intro act W2 hk
                    have eg : act.tmps[68]?.getD undef = .bool true := hk.v 68 (by kernel_rfl)
                    exact Flow.does_skip (wanted_no rfl rfl eg) (fun d hd => by cases hd; rfl)
                  · intro act W2 hk
                    refine Flow.does_intro rfl (fun Kq hK => ?_)
                    have e68 : act.tmps[68]?.getD undef = .bool true := hk.v 68 (by kernel_rfl)
                    clear hk
                    go_simp
                    exact hK _ _ (Ext.refl _) (fun d hd => by cases hd; rfl)
                  · intro act W2 hk
                    refine Flow.does_intro rfl (fun Kq hK => ?_)
                    have e71 : act.tmps[71]?.getD undef = .bool true := hk.v 71 (by kernel_rfl)
                    clear hk
                    go_simp
                    exact hK _ _ (Ext.refl _) (fun d hd => by cases hd; rfl)
                  · intro act W2 hk
                    have eg : act.tmps[72]?.getD undef = .bool true := hk.v 72 (by kernel_rfl)
                    exact Flow.does_skip (wanted_no rfl rfl eg) (fun d hd => by cases hd; rfl)
                  · intro act W2 hk
                    have eg : act.tmps[72]?.getD undef = .bool true := hk.v 72 (by kernel_rfl)
                    exact Flow.does_skip (wanted_no rfl rfl eg) (fun d hd => by cases hd; rfl)
                  · intro act W2 hk
                    refine Flow.does_intro rfl (fun Kq hK => ?_)
                    have e72 : act.tmps[72]?.getD undef = .bool true := hk.v 72 (by kernel_rfl)
                    clear hk
                    go_simp
                    exact hK _ _ (Ext.refl _) (fun d hd => by cases hd; rfl)
                · intro act V4 he
                  have hxV4 := Hd.mk ((Ext.drew V3).trans he.ext)
                  obtain ⟨us, hA, hF⟩ := he.out [53, 54, 55, 56, 57, 58, 59, 60, 61, 62, 63, 64, 65, 66, 67, 68, 69, 70, 71, 72, 73, 74, 75] (by kernel_rfl)
                  simp only [Flow.fillL, List.contains_cons, List.contains_nil, Nat.reduceBEq, Bool.or_false, Bool.false_or, Bool.or_true, Bool.true_or, ↓reduceIte, Nat.reduceAdd, Bool.false_eq_true] at hA
                  subst hA
                  have f75 : us 75 = .bool true := hF 75 (by simp)
                  clear hF he
                  rw [f75]
                  clear f75
                  refine (show wpList _ _ _ [] _ _ from ?_)
                  go_wp2_with fail
                  go_ret
                  exact ⟨rfl, hx3.out.trans hxV4.out⟩
              | true =>
                cases bn with
                | false =>
                  have hr0 : r = false := by rw [hI.out, hdrop.out, hse.out]; simp
                  subst hr0
                  refine Flow.wp_region_flow_l (fun qq => match qq with
                    | 53 => SP.eq (.slice (some ⟨b1, o1, none⟩) l'.length c1)
                    | 54 => SP.eq (.int .i64 (j : Nat))
                    | 55 => SP.eq (.pointer (some ⟨b1, o1 + j * 14, none⟩))
                    | 56 => SP.eq (.pointer (some ⟨b1, o1 + j * 14, none⟩))
                    | 57 => SP.eq (.int .i64 x.kind)
                    | 58 => SP.eq (.slice (some ⟨b2, o2, none⟩) l'.length c2)
                    | 59 => SP.eq (.int .i64 (j : Nat))
                    | 60 => SP.eq (.pointer (some ⟨b2, o2 + j * 14, none⟩))
                    | 61 => SP.eq (.pointer (some ⟨b2, o2 + j * 14, none⟩))
                    | 62 => SP.eq (.int .i64 y.kind)
                    | 63 => SP.eq (.bool false)
                    | 64 => SP.eq (.bool false)
                    | 65 => SP.eq (.bool true)
                    | 66 => SP.eq (.bool false)
                    | 67 => SP.eq (.bool false)
                    | 68 => SP.eq (.bool false)
                    | 69 => SP.eq (.bool false)
                    | 70 => SP.eq (.bool true)
                    | 71 => SP.eq (.bool true)
                    | 72 => SP.eq (.bool true)
                    | 73 => SP.eq (undef)
                    | 74 => SP.eq (undef)
                    | 75 => SP.eq (.bool true)
                    | _ => SP.any) 23 (by kernel_rfl) 76 rfl (by kernel_rfl) ?_ ?_
                  · skip
                    refine ⟨?_, ?_, ?_, ?_, ?_, ?_, ?_, ?_, ?_, ?_, ?_, ?_, ?_, ?_, ?_, ?_, ?_, ?_, ?_, ?_, ?_, ?_, ?_, trivial⟩
                    · intro act W2 hk
                      refine Flow.does_intro rfl (fun Kq hK => ?_)
                      have e0 : act.tmps[0]?.getD undef = .slice (some ⟨b1, o1, none⟩) l'.length c1 := hk.o 0 (by kernel_rfl)
                      clear hk
                      go_simp
                      exact hK _ _ (Ext.refl _) (fun d hd => by cases hd; rfl)
                    · intro act W2 hk
                      refine Flow.does_intro rfl (fun Kq hK => ?_)
                      have e5 : act.tmps[5]?.getD undef = .int .i64 (j : Nat) := hk.o 5 (by kernel_rfl)
                      clear hk
                      go_simp
                      exact hK _ _ (Ext.refl _) (fun d hd => by cases hd; rfl)
                    · intro act W2 hk
                      refine Flow.does_intro rfl (fun Kq hK => ?_)
                      have e53 : act.tmps[53]?.getD undef = .slice (some ⟨b1, o1, none⟩) l'.length c1 := hk.v 53 (by kernel_rfl)
                      have e54 : act.tmps[54]?.getD undef = .int .i64 (j : Nat) := hk.v 54 (by kernel_rfl)
                      clear hk
                      go_simp
                      exact hK _ _ (Ext.refl _) (fun d hd => by cases hd; rfl)
                    · intro act W2 hk
                      refine Flow.does_intro rfl (fun Kq hK => ?_)
                      have e55 : act.tmps[55]?.getD undef = .pointer (some ⟨b1, o1 + j * 14, none⟩) := hk.v 55 (by kernel_rfl)
                      clear hk
                      go_simp
                      exact hK _ _ (Ext.refl _) (fun d hd => by cases hd; rfl)
                    · intro act W2 hk
                      refine Flow.does_intro rfl (fun Kq hK => ?_)
                      have e56 : act.tmps[56]?.getD undef = .pointer (some ⟨b1, o1 + j * 14, none⟩) := hk.v 56 (by kernel_rfl)
                      have g0 := Ext.cell ((Ext.drew V3).trans hk.ext) ((kcx3.out) 0 _ rfl)
                      rw [Nat.add_zero] at g0
                      clear hk
                      go_simp
                      exact hK _ _ (Ext.refl _) (fun d hd => by cases hd; first | rfl | (simp [SP.eq]; omega) | (simp [SP.eq, hkk]))
                    · intro act W2 hk
                      refine Flow.does_intro rfl (fun Kq hK => ?_)
                      have e1 : act.tmps[1]?.getD undef = .slice (some ⟨b2, o2, none⟩) l'.length c2 := hk.o 1 (by kernel_rfl)
                      clear hk
                      go_simp
                      exact hK _ _ (Ext.refl _) (fun d hd => by cases hd; rfl)
                    · intro act W2 hk
                      refine Flow.does_intro rfl (fun Kq hK => ?_)
                      have e5 : act.tmps[5]?.getD undef = .int .i64 (j : Nat) := hk.o 5 (by kernel_rfl)
                      clear hk
                      go_simp
                      exact hK _ _ (Ext.refl _) (fun d hd => by cases hd; rfl)
                    · intro act W2 hk
                      refine Flow.does_intro rfl (fun Kq hK => ?_)
                      have e58 : act.tmps[58]?.getD undef = .slice (some ⟨b2, o2, none⟩) l'.length c2 := hk.v 58 (by kernel_rfl)
                      have e59 : act.tmps[59]?.getD undef = .int .i64 (j : Nat) := hk.v 59 (by kernel_rfl)
                      clear hk
                      go_simp
                      exact hK _ _ (Ext.refl _) (fun d hd => by cases hd; rfl)
                    · intro act W2 hk
                      refine Flow.does_intro rfl (fun Kq hK => ?_)
                      have e60 : act.tmps[60]?.getD undef = .pointer (some ⟨b2, o2 + j * 14, none⟩) := hk.v 60 (by kernel_rfl)
                      clear hk
                      go_simp
                      exact hK _ _ (Ext.refl _) (fun d hd => by cases hd; rfl)
                    · intro act W2 hk
                      refine Flow.does_intro rfl (fun Kq hK => ?_)
                      have e61 : act.tmps[61]?.getD undef = .pointer (some ⟨b2, o2 + j * 14, none⟩) := hk.v 61 (by kernel_rfl)
                      have g0 := Ext.cell ((Ext.drew V3).trans hk.ext) ((kcy3.out) 0 _ rfl)
                      rw [Nat.add_zero] at g0
                      clear hk
                      go_simp
                      exact hK _ _ (Ext.refl _) (fun d hd => by cases hd; first | rfl | (simp [SP.eq]; omega) | (simp [SP.eq, hkk]))
                    · intro act W2 hk
                      refine Flow.does_intro rfl (fun Kq hK => ?_)
                      have e57 : act.tmps[57]?.getD undef = .int .i64 x.kind := hk.v 57 (by kernel_rfl)
                      have e62 : act.tmps[62]?.getD undef = .int .i64 y.kind := hk.v 62 (by kernel_rfl)
                      clear hk
                      go_simp
                      exact hK _ _ (Ext.refl _) (fun d hd => by cases hd; first | rfl | (simp [SP.eq]; omega) | (simp [SP.eq, hkk]))
                    · intro act W2 hk
                      refine Flow.does_intro rfl (fun Kq hK => ?_)
                      have e63 : act.tmps[63]?.getD undef = .bool false := hk.v 63 (by kernel_rfl)
                      clear hk
                      go_simp
                      exact hK _ _ (Ext.refl _) (fun d hd => by cases hd; rfl)
                    · intro act W2 hk
                      have eg : act.tmps[64]?.getD undef = .bool false := hk.v 64 (by kernel_rfl)
                      refine Flow.does_intro (wanted_yes rfl rfl eg) (fun Kq hK => ?_)
                      clear eg
                      have e6 : act.tmps[6]?.getD undef = .bool true := hk.o 6 (by kernel_rfl)
                      clear hk
                      go_simp
                      exact hK _ _ (Ext.refl _) (fun d hd => by cases hd; rfl)
                    · intro act W2 hk
                      have eg : act.tmps[64]?.getD undef = .bool false := hk.v 64 (by kernel_rfl)
                      refine Flow.does_intro (wanted_yes rfl rfl eg) (fun Kq hK => ?_)
                      clear eg
                      have e65 : act.tmps[65]?.getD undef = .bool true := hk.v 65 (by kernel_rfl)
                      clear hk
                      go_simp
                      exact hK _ _ (Ext.refl _) (fun d hd => by cases hd; rfl)
                    · intro act W2 hk
                      refine Flow.does_intro rfl (fun Kq hK => ?_)
                      have e64 : act.tmps[64]?.getD undef = .bool false := hk.v 64 (by kernel_rfl)
                      have e66 : act.tmps[66]?.getD undef = .bool false := hk.v 66 (by kernel_rfl)
                      clear hk
                      go_simp
                      exact hK _ _ (Ext.refl _) (fun d hd => by cases hd; rfl)
                    · intro act W2 hk
                      refine Flow.does_intro rfl (fun Kq hK => ?_)
                      have e67 : act.tmps[67]?.getD undef = .bool false := hk.v 67 (by kernel_rfl)
                      clear hk
                      go_simp
                      exact hK _ _ (Ext.refl _) (fun d hd => by cases hd; rfl)
                    · intro act W2 hk
                      have eg : act.tmps[68]?.getD undef = .bool false := hk.v 68 (by kernel_rfl)
                      refine Flow.does_intro (wanted_yes rfl rfl eg) (fun Kq hK => ?_)
                      clear eg
                      have e7 : act.tmps[7]?.getD undef = .bool false := hk.o 7 (by kernel_rfl)
                      clear hk
                      go_simp
                      exact hK _ _ (Ext.refl _) (fun d hd => by cases hd; rfl)
                    · intro act W2 hk
                      have eg : act.tmps[68]?.getD undef = .bool false := hk.v 68 (by kernel_rfl)
                      refine Flow.does_intro (wanted_yes rfl rfl eg) (fun Kq hK => ?_)
                      clear eg
                      have e69 : act.tmps[69]?.getD undef = .bool false := hk.v 69 (by kernel_rfl)
                      clear hk
                      go_simp
                      exact hK _ _ (Ext.refl _) (fun d hd => by cases hd; rfl)
                    · intro act W2 hk
                      refine Flow.does_intro rfl (fun Kq hK => ?_)
                      have e68 : act.tmps[68]?.getD undef = .bool false := hk.v 68 (by kernel_rfl)
                      have e70 : act.tmps[70]?.getD undef = .bool true := hk.v 70 (by kernel_rfl)
                      clear hk
                      go_simp
                      exact hK _ _ (Ext.refl _) (fun d hd => by cases hd; rfl)
                    · intro act W2 hk
                      refine Flow.does_intro rfl (fun Kq hK => ?_)
                      have e71 : act.tmps[71]?.getD undef = .bool true := hk.v 71 (by kernel_rfl)
                      clear hk
                      go_simp
                      exact hK _ _ (Ext.refl _) (fun d hd => by cases hd; rfl)
                    · intro act W2 hk
                      have eg : act.tmps[72]?.getD undef = .bool true := hk.v 72 (by kernel_rfl)
                      exact Flow.does_skip (wanted_no rfl rfl eg) (fun d hd => by cases hd; rfl)
                    · intro act W2 hk
                      have eg : act.tmps[72]?.getD undef = .bool true := hk.v 72 (by kernel_rfl)
                      exact Flow.does_skip (wanted_no rfl rfl eg) (fun d hd => by cases hd; rfl)
                    · intro act W2 hk
                      refine Flow.does_intro rfl (fun Kq hK => ?_)
                      have e72 : act.tmps[72]?.getD undef = .bool true := hk.v 72 (by kernel_rfl)
                      clear hk
                      go_simp
                      exact hK _ _ (Ext.refl _) (fun d hd => by cases hd; rfl)
                  · intro act V4 he
                    have hxV4 := Hd.mk ((Ext.drew V3).trans he.ext)
                    obtain ⟨us, hA, hF⟩ := he.out [53, 54, 55, 56, 57, 58, 59, 60, 61, 62, 63, 64, 65, 66, 67, 68, 69, 70, 71, 72, 73, 74, 75] (by kernel_rfl)
                    simp only [Flow.fillL, List.contains_cons, List.contains_nil, Nat.reduceBEq, Bool.or_false, Bool.false_or, Bool.or_true, Bool.true_or, ↓reduceIte, Nat.reduceAdd, Bool.false_eq_true] at hA
                    subst hA
                    have f75 : us 75 = .bool true := hF 75 (by simp)
                    clear hF he
                    rw [f75]
                    clear f75
                    refine (show wpList _ _ _ [] _ _ from ?_)
                    go_wp2_with fail
                    go_ret
                    exact ⟨rfl, hx3.out.trans hxV4.out⟩
                | true =>
                  cases bo with
                  | false =>
                    have hr0 : r = false := by rw [hI.out, hdrop.out, hse.out]; simp
                    subst hr0
                    refine Flow.wp_region_flow_l (fun qq => match qq with
                      | 53 => SP.eq (.slice (some ⟨b1, o1, none⟩) l'.length c1)
                      | 54 => SP.eq (.int .i64 (j : Nat))
                      | 55 => SP.eq (.pointer (some ⟨b1, o1 + j * 14, none⟩))
                      | 56 => SP.eq (.pointer (some ⟨b1, o1 + j * 14, none⟩))
                      | 57 => SP.eq (.int .i64 x.kind)
                      | 58 => SP.eq (.slice (some ⟨b2, o2, none⟩) l'.length c2)
                      | 59 => SP.eq (.int .i64 (j : Nat))
                      | 60 => SP.eq (.pointer (some ⟨b2, o2 + j * 14, none⟩))
                      | 61 => SP.eq (.pointer (some ⟨b2, o2 + j * 14, none⟩))
                      | 62 => SP.eq (.int .i64 y.kind)
                      | 63 => SP.eq (.bool false)
                      | 64 => SP.eq (.bool false)
                      | 65 => SP.eq (.bool true)
                      | 66 => SP.eq (.bool false)
                      | 67 => SP.eq (.bool false)
                      | 68 => SP.eq (.bool false)
                      | 69 => SP.eq (.bool true)
                      | 70 => SP.eq (.bool false)
                      | 71 => SP.eq (.bool false)
                      | 72 => SP.eq (.bool false)
                      | 73 => SP.eq (.bool false)
                      | 74 => SP.eq (.bool true)
                      | 75 => SP.eq (.bool true)
                      | _ => SP.any) 23 (by kernel_rfl) 76 rfl (by kernel_rfl) ?_ ?_
                    · skip
                      refine ⟨?_, ?_, ?_, ?_, ?_, ?_, ?_, ?_, ?_, ?_, ?_, ?_, ?_, ?_, ?_, ?_, ?_, ?_, ?_, ?_, ?_, ?_, ?_, trivial⟩
                      · intro act W2 hk
                        refine Flow.does_intro rfl (fun Kq hK => ?_)
                        have e0 : act.tmps[0]?.getD undef = .slice (some ⟨b1, o1, none⟩) l'.length c1 := hk.o 0 (by kernel_rfl)
                        clear hk
                        go_simp
                        exact hK _ _ (Ext.refl _) (fun d hd => by cases hd; rfl)
                      · intro act W2 hk
                        refine Flow.does_intro rfl (fun Kq hK => ?_)
                        have e5 : act.tmps[5]?.getD undef = .int .i64 (j : Nat) := hk.o 5 (by kernel_rfl)
                        clear hk
                        go_simp
                        exact hK _ _ (Ext.refl _) (fun d hd => by cases hd; rfl)
                      · intro act W2 hk
                        refine Flow.does_intro rfl (fun Kq hK => ?_)
                        have e53 : act.tmps[53]?.getD undef = .slice (some ⟨b1, o1, none⟩) l'.length c1 := hk.v 53 (by kernel_rfl)
                        have e54 : act.tmps[54]?.getD undef = .int .i64 (j : Nat) := hk.v 54 (by kernel_rfl)
                        clear hk
                        go_simp
                        exact hK _ _ (Ext.refl _) (fun d hd => by cases hd; rfl)
                      · intro act W2 hk
                        refine Flow.does_intro rfl (fun Kq hK => ?_)
                        have e55 : act.tmps[55]?.getD undef = .pointer (some ⟨b1, o1 + j * 14, none⟩) := hk.v 55 (by kernel_rfl)
                        clear hk
                        go_simp
                        exact hK _ _ (Ext.refl _) (fun d hd => by cases hd; rfl)
                      · intro act W2 hk
                        refine Flow.does_intro rfl (fun Kq hK => ?_)
                        have e56 : act.tmps[56]?.getD undef = .pointer (some ⟨b1, o1 + j * 14, none⟩) := hk.v 56 (by kernel_rfl)
                        have g0 := Ext.cell ((Ext.drew V3).trans hk.ext) ((kcx3.out) 0 _ rfl)
                        rw [Nat.add_zero] at g0
                        clear hk
                        go_simp
                        exact hK _ _ (Ext.refl _) (fun d hd => by cases hd; first | rfl | (simp [SP.eq]; omega) | (simp [SP.eq, hkk]))
                      · intro act W2 hk
                        refine Flow.does_intro rfl (fun Kq hK => ?_)
                        have e1 : act.tmps[1]?.getD undef = .slice (some ⟨b2, o2, none⟩) l'.length c2 := hk.o 1 (by kernel_rfl)
                        clear hk
                        go_simp
                        exact hK _ _ (Ext.refl _) (fun d hd => by cases hd; rfl)
                      · intro act W2 hk
                        refine Flow.does_intro rfl (fun Kq hK => ?_)
                        have e5 : act.tmps[5]?.getD undef = .int .i64 (j : Nat) := hk.o 5 (by kernel_rfl)
                        clear hk
                        go_simp
                        exact hK _ _ (Ext.refl _) (fun d hd => by cases hd; rfl)
                      · intro act W2 hk
                        refine Flow.does_intro rfl (fun Kq hK => ?_)
                        have e58 : act.tmps[58]?.getD undef = .slice (some ⟨b2, o2, none⟩) l'.length c2 := hk.v 58 (by kernel_rfl)
                        have e59 : act.tmps[59]?.getD undef = .int .i64 (j : Nat) := hk.v 59 (by kernel_rfl)
                        clear hk
                        go_simp
                        exact hK _ _ (Ext.refl _) (fun d hd => by cases hd; rfl)
                      · intro act W2 hk
                        refine Flow.does_intro rfl (fun Kq hK => ?_)
                        have e60 : act.tmps[60]?.getD undef = .pointer (some ⟨b2, o2 + j * 14, none⟩) := hk.v 60 (by kernel_rfl)
                        clear hk
                        go_simp
                        exact hK _ _ (Ext.refl _) (fun d hd => by cases hd; rfl)
                      · intro act W2 hk
                        refine Flow.does_intro rfl (fun Kq hK => ?_)
                        have e61 : act.tmps[61]?.getD undef = .pointer (some ⟨b2, o2 + j * 14, none⟩) := hk.v 61 (by kernel_rfl)
                        have g0 := Ext.cell ((Ext.drew V3).trans hk.ext) ((kcy3.out) 0 _ rfl)
                        rw [Nat.add_zero] at g0
                        clear hk
                        go_simp
                        exact hK _ _ (Ext.refl _) (fun d hd => by cases hd; first | rfl | (simp [SP.eq]; omega) | (simp [SP.eq, hkk]))
                      · intro act W2 hk
                        refine Flow.does_intro rfl (fun Kq hK => ?_)
                        have e57 : act.tmps[57]?.getD undef = .int .i64 x.kind := hk.v 57 (by kernel_rfl)
                        have e62 : act.tmps[62]?.getD undef = .int .i64 y.kind := hk.v 62 (by kernel_rfl)
                        clear hk
                        go_simp
                        exact hK _ _ (Ext.refl _) (fun d hd => by cases hd; first | rfl | (simp [SP.eq]; omega) | (simp [SP.eq, hkk]))
                      · intro act W2 hk
                        refine Flow.does_intro rfl (fun Kq hK => ?_)
                        have e63 : act.tmps[63]?.getD undef = .bool false := hk.v 63 (by kernel_rfl)
                        clear hk
                        go_simp
                        exact hK _ _ (Ext.refl _) (fun d hd => by cases hd; rfl)
                      · intro act W2 hk
                        have eg : act.tmps[64]?.getD undef = .bool false := hk.v 64 (by kernel_rfl)
                        refine Flow.does_intro (wanted_yes rfl rfl eg) (fun Kq hK => ?_)
                        clear eg
                        have e6 : act.tmps[6]?.getD undef = .bool true := hk.o 6 (by kernel_rfl)
                        clear hk
                        go_simp
                        exact hK _ _ (Ext.refl _) (fun d hd => by cases hd; rfl)
                      · intro act W2 hk
                        have eg : act.tmps[64]?.getD undef = .bool false := hk.v 64 (by kernel_rfl)
                        refine Flow.does_intro (wanted_yes rfl rfl eg) (fun Kq hK => ?_)
                        clear eg
                        have e65 : act.tmps[65]?.getD undef = .bool true := hk.v 65 (by kernel_rfl)
                        clear hk
                        go_simp
                        exact hK _ _ (Ext.refl _) (fun d hd => by cases hd; rfl)
                      · intro act W2 hk
                        refine Flow.does_intro rfl (fun Kq hK => ?_)
                        have e64 : act.tmps[64]?.getD undef = .bool false := hk.v 64 (by kernel_rfl)
                        have e66 : act.tmps[66]?.getD undef = .bool false := hk.v 66 (by kernel_rfl)
                        clear hk
                        go_simp
                        exact hK _ _ (Ext.refl _) (fun d hd => by cases hd; rfl)
                      · intro act W2 hk
                        refine Flow.does_intro rfl (fun Kq hK => ?_)
                        have e67 : act.tmps[67]?.getD undef = .bool false := hk.v 67 (by kernel_rfl)
                        clear hk
                        go_simp
                        exact hK _ _ (Ext.refl _) (fun d hd => by cases hd; rfl)
                      · intro act W2 hk
                        have eg : act.tmps[68]?.getD undef = .bool false := hk.v 68 (by kernel_rfl)
                        refine Flow.does_intro (wanted_yes rfl rfl eg) (fun Kq hK => ?_)
                        clear eg
                        have e7 : act.tmps[7]?.getD undef = .bool true := hk.o 7 (by kernel_rfl)
                        clear hk
                        go_simp
                        exact hK _ _ (Ext.refl _) (fun d hd => by cases hd; rfl)
                      · intro act W2 hk
                        have eg : act.tmps[68]?.getD undef = .bool false := hk.v 68 (by kernel_rfl)
                        refine Flow.does_intro (wanted_yes rfl rfl eg) (fun Kq hK => ?_)
                        clear eg
                        have e69 : act.tmps[69]?.getD undef = .bool true := hk.v 69 (by kernel_rfl)
                        clear hk
                        go_simp
                        exact hK _ _ (Ext.refl _) (fun d hd => by cases hd; rfl)
                      · intro act W2 hk
                        refine Flow.does_intro rfl (fun Kq hK => ?_)
                        have e68 : act.tmps[68]?.getD undef = .bool false := hk.v 68 (by kernel_rfl)
                        have e70 : act.tmps[70]?.getD undef = .bool false := hk.v 70 (by kernel_rfl)
                        clear hk
                        go_simp
                        exact hK _ _ (Ext.refl _) (fun d hd => by cases hd; rfl)
                      · intro act W2 hk
                        refine Flow.does_intro rfl (fun Kq hK => ?_)
                        have e71 : act.tmps[71]?.getD undef = .bool false := hk.v 71 (by kernel_rfl)
                        clear hk
                        go_simp
                        exact hK _ _ (Ext.refl _) (fun d hd => by cases hd; rfl)
                      · intro act W2 hk
                        have eg : act.tmps[72]?.getD undef = .bool false := hk.v 72 (by kernel_rfl)
                        refine Flow.does_intro (wanted_yes rfl rfl eg) (fun Kq hK => ?_)
                        clear eg
                        have e8 : act.tmps[8]?.getD undef = .bool false := hk.o 8 (by kernel_rfl)
                        clear hk
                        go_simp
                        exact hK _ _ (Ext.refl _) (fun d hd => by cases hd; rfl)
                      · intro act W2 hk
                        have eg : act.tmps[72]?.getD undef = .bool false := hk.v 72 (by kernel_rfl)
                        refine Flow.does_intro (wanted_yes rfl rfl eg) (fun Kq hK => ?_)
                        clear eg
                        have e73 : act.tmps[73]?.getD undef = .bool false := hk.v 73 (by kernel_rfl)
                        clear hk
                        go_simp
                        exact hK _ _ (Ext.refl _) (fun d hd => by cases hd; rfl)
                      · intro act W2 hk
                        refine Flow.does_intro rfl (fun Kq hK => ?_)
                        have e72 : act.tmps[72]?.getD undef = .bool false := hk.v 72 (by kernel_rfl)
                        have e74 : act.tmps[74]?.getD undef = .bool true := hk.v 74 (by kernel_rfl)
                        clear hk
                        go_simp
                        exact hK _ _ (Ext.refl _) (fun d hd => by cases hd; rfl)
                    · intro act V4 he
                      have hxV4 := Hd.mk ((Ext.drew V3).trans he.ext)
                      obtain ⟨us, hA, hF⟩ := he.out [53, 54, 55, 56, 57, 58, 59, 60, 61, 62, 63, 64, 65, 66, 67, 68, 69, 70, 71, 72, 73, 74, 75] (by kernel_rfl)
                      simp only [Flow.fillL, List.contains_cons, List.contains_nil, Nat.reduceBEq, Bool.or_false, Bool.false_or, Bool.or_true, Bool.true_or, ↓reduceIte, Nat.reduceAdd, Bool.false_eq_true] at hA
                      subst hA
                      have f75 : us 75 = .bool true := hF 75 (by simp)
                      clear hF he
                      rw [f75]
                      clear f75
                      refine (show wpList _ _ _ [] _ _ from ?_)
                      go_wp2_with fail
                      go_ret
                      exact ⟨rfl, hx3.out.trans hxV4.out⟩
                  | true =>
                    refine Flow.wp_region_flow_l (fun qq => match qq with
                      | 53 => SP.eq (.slice (some ⟨b1, o1, none⟩) l'.length c1)
                      | 54 => SP.eq (.int .i64 (j : Nat))
                      | 55 => SP.eq (.pointer (some ⟨b1, o1 + j * 14, none⟩))
                      | 56 => SP.eq (.pointer (some ⟨b1, o1 + j * 14, none⟩))
                      | 57 => SP.eq (.int .i64 x.kind)
                      | 58 => SP.eq (.slice (some ⟨b2, o2, none⟩) l'.length c2)
                      | 59 => SP.eq (.int .i64 (j : Nat))
                      | 60 => SP.eq (.pointer (some ⟨b2, o2 + j * 14, none⟩))
                      | 61 => SP.eq (.pointer (some ⟨b2, o2 + j * 14, none⟩))
                      | 62 => SP.eq (.int .i64 y.kind)
                      | 63 => SP.eq (.bool false)
                      | 64 => SP.eq (.bool false)
                      | 65 => SP.eq (.bool true)
                      | 66 => SP.eq (.bool false)
                      | 67 => SP.eq (.bool false)
                      | 68 => SP.eq (.bool false)
                      | 69 => SP.eq (.bool true)
                      | 70 => SP.eq (.bool false)
                      | 71 => SP.eq (.bool false)
                      | 72 => SP.eq (.bool false)
                      | 73 => SP.eq (.bool true)
                      | 74 => SP.eq (.bool false)
                      | 75 => SP.eq (.bool false)
                      | _ => SP.any) 23 (by kernel_rfl) 76 rfl (by kernel_rfl) ?_ ?_
                    · skip
                      refine ⟨?_, ?_, ?_, ?_, ?_, ?_, ?_, ?_, ?_, ?_, ?_, ?_, ?_, ?_, ?_, ?_, ?_, ?_, ?_, ?_, ?_, ?_, ?_, trivial⟩
                      · intro act W2 hk
                        refine Flow.does_intro rfl (fun Kq hK => ?_)
                        have e0 : act.tmps[0]?.getD undef = .slice (some ⟨b1, o1, none⟩) l'.length c1 := hk.o 0 (by kernel_rfl)
                        clear hk
                        go_simp
                        exact hK _ _ (Ext.refl _) (fun d hd => by cases hd; rfl)
                      · intro act W2 hk
                        refine Flow.does_intro rfl (fun Kq hK => ?_)
                        have e5 : act.tmps[5]?.getD undef = .int .i64 (j : Nat) := hk.o 5 (by kernel_rfl)
                        clear hk
                        go_simp
                        exact hK _ _ (Ext.refl _) (fun d hd => by cases hd; rfl)
                      · intro act W2 hk
                        refine Flow.does_intro rfl (fun Kq hK => ?_)
                        have e53 : act.tmps[53]?.getD undef = .slice (some ⟨b1, o1, none⟩) l'.length c1 := hk.v 53 (by kernel_rfl)
                        have e54 : act.tmps[54]?.getD undef = .int .i64 (j : Nat) := hk.v 54 (by kernel_rfl)
                        clear hk
                        go_simp
                        exact hK _ _ (Ext.refl _) (fun d hd => by cases hd; rfl)
                      · intro act W2 hk
                        refine Flow.does_intro rfl (fun Kq hK => ?_)
                        have e55 : act.tmps[55]?.getD undef = .pointer (some ⟨b1, o1 + j * 14, none⟩) := hk.v 55 (by kernel_rfl)
                        clear hk
                        go_simp
                        exact hK _ _ (Ext.refl _) (fun d hd => by cases hd; rfl)
                      · intro act W2 hk
                        refine Flow.does_intro rfl (fun Kq hK => ?_)
                        have e56 : act.tmps[56]?.getD undef = .pointer (some ⟨b1, o1 + j * 14, none⟩) := hk.v 56 (by kernel_rfl)
                        have g0 := Ext.cell ((Ext.drew V3).trans hk.ext) ((kcx3.out) 0 _ rfl)
                        rw [Nat.add_zero] at g0
                        clear hk
                        go_simp
                        exact hK _ _ (Ext.refl _) (fun d hd => by cases hd; first | rfl | (simp [SP.eq]; omega) | (simp [SP.eq, hkk]))
                      · intro act W2 hk
                        refine Flow.does_intro rfl (fun Kq hK => ?_)
                        have e1 : act.tmps[1]?.getD undef = .slice (some ⟨b2, o2, none⟩) l'.length c2 := hk.o 1 (by kernel_rfl)
                        clear hk
                        go_simp
                        exact hK _ _ (Ext.refl _) (fun d hd => by cases hd; rfl)
                      · intro act W2 hk
                        refine Flow.does_intro rfl (fun Kq hK => ?_)
                        have e5 : act.tmps[5]?.getD undef = .int .i64 (j : Nat) := hk.o 5 (by kernel_rfl)
                        clear hk
                        go_simp
                        exact hK _ _ (Ext.refl _) (fun d hd => by cases hd; rfl)
                      · intro act W2 hk
                        refine Flow.does_intro rfl (fun Kq hK => ?_)
                        have e58 : act.tmps[58]?.getD undef = .slice (some ⟨b2, o2, none⟩) l'.length c2 := hk.v 58 (by kernel_rfl)
                        have e59 : act.tmps[59]?.getD undef = .int .i64 (j : Nat) := hk.v 59 (by kernel_rfl)
                        clear hk
                        go_simp
                        exact hK _ _ (Ext.refl _) (fun d hd => by cases hd; rfl)
                      · intro act W2 hk
                        refine Flow.does_intro rfl (fun Kq hK => ?_)
                        have e60 : act.tmps[60]?.getD undef = .pointer (some ⟨b2, o2 + j * 14, none⟩) := hk.v 60 (by kernel_rfl)
                        clear hk
                        go_simp
                        exact hK _ _ (Ext.refl _) (fun d hd => by cases hd; rfl)
                      · intro act W2 hk
                        refine Flow.does_intro rfl (fun Kq hK => ?_)
                        have e61 : act.tmps[61]?.getD undef = .pointer (some ⟨b2, o2 + j * 14, none⟩) := hk.v 61 (by kernel_rfl)
                        have g0 := Ext.cell ((Ext.drew V3).trans hk.ext) ((kcy3.out) 0 _ rfl)
                        rw [Nat.add_zero] at g0
                        clear hk
                        go_simp
                        exact hK _ _ (Ext.refl _) (fun d hd => by cases hd; first | rfl | (simp [SP.eq]; omega) | (simp [SP.eq, hkk]))
                      · intro act W2 hk
                        refine Flow.does_intro rfl (fun Kq hK => ?_)
                        have e57 : act.tmps[57]?.getD undef = .int .i64 x.kind := hk.v 57 (by kernel_rfl)
                        have e62 : act.tmps[62]?.getD undef = .int .i64 y.kind := hk.v 62 (by kernel_rfl)
                        clear hk
                        go_simp
                        exact hK _ _ (Ext.refl _) (fun d hd => by cases hd; first | rfl | (simp [SP.eq]; omega) | (simp [SP.eq, hkk]))
                      · intro act W2 hk
                        refine Flow.does_intro rfl (fun Kq hK => ?_)
                        have e63 : act.tmps[63]?.getD undef = .bool false := hk.v 63 (by kernel_rfl)
                        clear hk
                        go_simp
                        exact hK _ _ (Ext.refl _) (fun d hd => by cases hd; rfl)
                      · intro act W2 hk
                        have eg : act.tmps[64]?.getD undef = .bool false := hk.v 64 (by kernel_rfl)
                        refine Flow.does_intro (wanted_yes rfl rfl eg) (fun Kq hK => ?_)
                        clear eg
                        have e6 : act.tmps[6]?.getD undef = .bool true := hk.o 6 (by kernel_rfl)
                        clear hk
                        go_simp
                        exact hK _ _ (Ext.refl _) (fun d hd => by cases hd; rfl)
                      · intro act W2 hk
                        have eg : act.tmps[64]?.getD undef = .bool false := hk.v 64 (by kernel_rfl)
                        refine Flow.does_intro (wanted_yes rfl rfl eg) (fun Kq hK => ?_)
                        clear eg
                        have e65 : act.tmps[65]?.getD undef = .bool true := hk.v 65 (by kernel_rfl)
                        clear hk
                        go_simp
                        exact hK _ _ (Ext.refl _) (fun d hd => by cases hd; rfl)
                      · intro act W2 hk
                        refine Flow.does_intro rfl (fun Kq hK => ?_)
                        have e64 : act.tmps[64]?.getD undef = .bool false := hk.v 64 (by kernel_rfl)
                        have e66 : act.tmps[66]?.getD undef = .bool false := hk.v 66 (by kernel_rfl)
                        clear hk
                        go_simp
                        exact hK _ _ (Ext.refl _) (fun d hd => by cases hd; rfl)
                      · intro act W2 hk
                        refine Flow.does_intro rfl (fun Kq hK => ?_)
                        have e67 : act.tmps[67]?.getD undef = .bool false := hk.v 67 (by kernel_rfl)
                        clear hk
                        go_simp
                        exact hK _ _ (Ext.refl _) (fun d hd => by cases hd; rfl)
                      · intro act W2 hk
                        have eg : act.tmps[68]?.getD undef = .bool false := hk.v 68 (by kernel_rfl)
                        refine Flow.does_intro (wanted_yes rfl rfl eg) (fun Kq hK => ?_)
                        clear eg
                        have e7 : act.tmps[7]?.getD undef = .bool true := hk.o 7 (by kernel_rfl)
                        clear hk
                        go_simp
                        exact hK _ _ (Ext.refl _) (fun d hd => by cases hd; rfl)
                      · intro act W2 hk
                        have eg : act.tmps[68]?.getD undef = .bool false := hk.v 68 (by kernel_rfl)
                        refine Flow.does_intro (wanted_yes rfl rfl eg) (fun Kq hK => ?_)
                        clear eg
                        have e69 : act.tmps[69]?.getD undef = .bool true := hk.v 69 (by kernel_rfl)
                        clear hk
                        go_simp
                        exact hK _ _ (Ext.refl _) (fun d hd => by cases hd; rfl)
                      · intro act W2 hk
                        refine Flow.does_intro rfl (fun Kq hK => ?_)
                        have e68 : act.tmps[68]?.getD undef = .bool false := hk.v 68 (by kernel_rfl)
                        have e70 : act.tmps[70]?.getD undef = .bool false := hk.v 70 (by kernel_rfl)
                        clear hk
                        go_simp
                        exact hK _ _ (Ext.refl _) (fun d hd => by cases hd; rfl)
                      · intro act W2 hk
                        refine Flow.does_intro rfl (fun Kq hK => ?_)
                        have e71 : act.tmps[71]?.getD undef = .bool false := hk.v 71 (by kernel_rfl)
                        clear hk
                        go_simp
                        exact hK _ _ (Ext.refl _) (fun d hd => by cases hd; rfl)
                      · intro act W2 hk
                        have eg : act.tmps[72]?.getD undef = .bool false := hk.v 72 (by kernel_rfl)
                        refine Flow.does_intro (wanted_yes rfl rfl eg) (fun Kq hK => ?_)
                        clear eg
                        have e8 : act.tmps[8]?.getD undef = .bool true := hk.o 8 (by kernel_rfl)
                        clear hk
                        go_simp
                        exact hK _ _ (Ext.refl _) (fun d hd => by cases hd; rfl)
                      · intro act W2 hk
                        have eg : act.tmps[72]?.getD undef = .bool false := hk.v 72 (by kernel_rfl)
                        refine Flow.does_intro (wanted_yes rfl rfl eg) (fun Kq hK => ?_)
                        clear eg
                        have e73 : act.tmps[73]?.getD undef = .bool true := hk.v 73 (by kernel_rfl)
                        clear hk
                        go_simp
                        exact hK _ _ (Ext.refl _) (fun d hd => by cases hd; rfl)
                      · intro act W2 hk
                        refine Flow.does_intro rfl (fun Kq hK => ?_)
                        have e72 : act.tmps[72]?.getD undef = .bool false := hk.v 72 (by kernel_rfl)
                        have e74 : act.tmps[74]?.getD undef = .bool false := hk.v 74 (by kernel_rfl)
                        clear hk
                        go_simp
                        exact hK _ _ (Ext.refl _) (fun d hd => by cases hd; rfl)
                    · intro act V4 he
                      have hxV4 := Hd.mk ((Ext.drew V3).trans he.ext)
                      obtain ⟨us, hA, hF⟩ := he.out [53, 54, 55, 56, 57, 58, 59, 60, 61, 62, 63, 64, 65, 66, 67, 68, 69, 70, 71, 72, 73, 74, 75] (by kernel_rfl)
                      simp only [Flow.fillL, List.contains_cons, List.contains_nil, Nat.reduceBEq, Bool.or_false, Bool.false_or, Bool.or_true, Bool.true_or, ↓reduceIte, Nat.reduceAdd, Bool.false_eq_true] at hA
                      subst hA
                      have f75 : us 75 = .bool false := hF 75 (by simp)
                      clear hF he
                      rw [f75]
                      clear f75
                      refine (show wpList _ _ _ [] _ _ from ?_)
                      go_wp2_with fail
                      go_roundg (l'.length + 1 - (j + 1))
                      case measure => have := hq.out; omega
                      case rel => exact ⟨j + 1, by omega, ⟨rfl⟩, by go_num, ⟨by rw [hI.out, hdrop.out, hse.out, decide_eq_true hkk]; rfl⟩, ⟨hx3.out.trans hxV4.out⟩⟩
            · have hr0 : r = false := by rw [hI.out, hdrop.out, hse.out, decide_eq_false hkk]; simp
              subst hr0
              refine Flow.wp_region_flow_l (fun qq => match qq with
                | 53 => SP.eq (.slice (some ⟨b1, o1, none⟩) l'.length c1)
                | 54 => SP.eq (.int .i64 (j : Nat))
                | 55 => SP.eq (.pointer (some ⟨b1, o1 + j * 14, none⟩))
                | 56 => SP.eq (.pointer (some ⟨b1, o1 + j * 14, none⟩))
                | 57 => SP.eq (.int .i64 x.kind)
                | 58 => SP.eq (.slice (some ⟨b2, o2, none⟩) l'.length c2)
                | 59 => SP.eq (.int .i64 (j : Nat))
                | 60 => SP.eq (.pointer (some ⟨b2, o2 + j * 14, none⟩))
                | 61 => SP.eq (.pointer (some ⟨b2, o2 + j * 14, none⟩))
                | 62 => SP.eq (.int .i64 y.kind)
                | 63 => SP.eq (.bool true)
                | 64 => SP.eq (.bool true)
                | 65 => SP.eq (undef)
                | 66 => SP.eq (undef)
                | 67 => SP.eq (.bool true)
                | 68 => SP.eq (.bool true)
                | 69 => SP.eq (undef)
                | 70 => SP.eq (undef)
                | 71 => SP.eq (.bool true)
                | 72 => SP.eq (.bool true)
                | 73 => SP.eq (undef)
                | 74 => SP.eq (undef)
                | 75 => SP.eq (.bool true)
                | _ => SP.any) 23 (by kernel_rfl) 76 rfl (by kernel_rfl) ?_ ?_
              · skip
                refine ⟨?_, ?_, ?_, ?_, ?_, ?_, ?_, ?_, ?_, ?_, ?_, ?_, ?_, ?_, ?_, ?_, ?_, ?_, ?_, ?_, ?_, ?_, ?_, trivial⟩
                · intro act W2 hk
                  refine Flow.does_intro rfl (fun Kq hK => ?_)
                  have e0 : act.tmps[0]?.getD undef = .slice (some ⟨b1, o1, none⟩) l'.length c1 := hk.o 0 (by kernel_rfl)
                  clear hk
                  go_simp
                  exact hK _ _ (Ext.refl _) (fun d hd => by cases hd; rfl)
                · intro act W2 hk
                  refine Flow.does_intro rfl (fun Kq hK => ?_)
                  have e5 : act.tmps[5]?.getD undef = .int .i64 (j : Nat) := hk.o 5 (by kernel_rfl)
                  clear hk
                  go_simp
                  exact hK _ _ (Ext.refl _) (fun d hd => by cases hd; rfl)
                · intro act W2 hk
                  refine Flow.does_intro rfl (fun Kq hK => ?_)
                  have e53 : act.tmps[53]?.getD undef = .slice (some ⟨b1, o1, none⟩) l'.length c1 := hk.v 53 (by kernel_rfl)
                  have e54 : act.tmps[54]?.getD undef = .int .i64 (j : Nat) := hk.v 54 (by kernel_rfl)
                  clear hk
                  go_simp
                  exact hK _ _ (Ext.refl _) (fun d hd => by cases hd; rfl)
                · intro act W2 hk
                  refine Flow.does_intro rfl (fun Kq hK => ?_)
                  have e55 : act.tmps[55]?.getD undef = .pointer (some ⟨b1, o1 + j * 14, none⟩) := hk.v 55 (by kernel_rfl)
                  clear hk
                  go_simp
                  exact hK _ _ (Ext.refl _) (fun d hd => by cases hd; rfl)
                · intro act W2 hk
                  refine Flow.does_intro rfl (fun Kq hK => ?_)
                  have e56 : act.tmps[56]?.getD undef = .pointer (some ⟨b1, o1 + j * 14, none⟩) := hk.v 56 (by kernel_rfl)
                  have g0 := Ext.cell ((Ext.drew V3).trans hk.ext) ((kcx3.out) 0 _ rfl)
                  rw [Nat.add_zero] at g0
                  clear hk
                  go_simp
                  exact hK _ _ (Ext.refl _) (fun d hd => by cases hd; first | rfl | (simp [SP.eq]; omega) | (simp [SP.eq, hkk]))
                · intro act W2 hk
                  refine Flow.does_intro rfl (fun Kq hK => ?_)
                  have e1 : act.tmps[1]?.getD undef = .slice (some ⟨b2, o2, none⟩) l'.length c2 := hk.o 1 (by kernel_rfl)
                  clear hk
                  go_simp
                  exact hK _ _ (Ext.refl _) (fun d hd => by cases hd; rfl)
                · intro act W2 hk
                  refine Flow.does_intro rfl (fun Kq hK => ?_)
                  have e5 : act.tmps[5]?.getD undef = .int .i64 (j : Nat) := hk.o 5 (by kernel_rfl)
                  clear hk
                  go_simp
                  exact hK _ _ (Ext.refl _) (fun d hd => by cases hd; rfl)
                · intro act W2 hk
                  refine Flow.does_intro rfl (fun Kq hK => ?_)
                  have e58 : act.tmps[58]?.getD undef = .slice (some ⟨b2, o2, none⟩) l'.length c2 := hk.v 58 (by kernel_rfl)
                  have e59 : act.tmps[59]?.getD undef = .int .i64 (j : Nat) := hk.v 59 (by kernel_rfl)
                  clear hk
                  go_simp
                  exact hK _ _ (Ext.refl _) (fun d hd => by cases hd; rfl)
                · intro act W2 hk
                  refine Flow.does_intro rfl (fun Kq hK => ?_)
                  have e60 : act.tmps[60]?.getD undef = .pointer (some ⟨b2, o2 + j * 14, none⟩) := hk.v 60 (by kernel_rfl)
                  clear hk
                  go_simp
                  exact hK _ _ (Ext.refl _) (fun d hd => by cases hd; rfl)
                · intro act W2 hk
                  refine Flow.does_intro rfl (fun Kq hK => ?_)
                  have e61 : act.tmps[61]?.getD undef = .pointer (some ⟨b2, o2 + j * 14, none⟩) := hk.v 61 (by kernel_rfl)
                  have g0 := Ext.cell ((Ext.drew V3).trans hk.ext) ((kcy3.out) 0 _ rfl)
                  rw [Nat.add_zero] at g0
                  clear hk
                  go_simp
                  exact hK _ _ (Ext.refl _) (fun d hd => by cases hd; first | rfl | (simp [SP.eq]; omega) | (simp [SP.eq, hkk]))
                · intro act W2 hk
                  refine Flow.does_intro rfl (fun Kq hK => ?_)
                  have e57 : act.tmps[57]?.getD undef = .int .i64 x.kind := hk.v 57 (by kernel_rfl)
                  have e62 : act.tmps[62]?.getD undef = .int .i64 y.kind := hk.v 62 (by kernel_rfl)
                  clear hk
                  go_simp
                  exact hK _ _ (Ext.refl _) (fun d hd => by cases hd; first | rfl | (simp [SP.eq]; omega) | (simp [SP.eq, hkk]))
                · intro act W2 hk
                  refine Flow.does_intro rfl (fun Kq hK => ?_)
                  have e63 : act.tmps[63]?.getD undef = .bool true := hk.v 63 (by kernel_rfl)
                  clear hk
                  go_simp
                  exact hK _ _ (Ext.refl _) (fun d hd => by cases hd; rfl)
                · intro act W2 hk
                  have eg : act.tmps[64]?.getD undef = .bool true := hk.v 64 (by kernel_rfl)
                  exact Flow.does_skip (wanted_no rfl rfl eg) (fun d hd => by cases hd; rfl)
                · intro act W2 hk
                  have eg : act.tmps[64]?.getD undef = .bool true := hk.v 64 (by kernel_rfl)
                  exact Flow.does_skip (wanted_no rfl rfl eg) (fun d hd => by cases hd; rfl)
                · intro act W2 hk
                  refine Flow.does_intro rfl (fun Kq hK => ?_)
                  have e64 : act.tmps[64]?.getD undef = .bool true := hk.v 64 (by kernel_rfl)
                  clear hk
                  go_simp
                  exact hK _ _ (Ext.refl _) (fun d hd => by cases hd; rfl)
                · intro act W2 hk
                  refine Flow.does_intro rfl (fun Kq hK => ?_)
                  have e67 : act.tmps[67]?.getD undef = .bool true := hk.v 67 (by kernel_rfl)
                  clear hk
                  go_simp
                  exact hK _ _ (Ext.refl _) (fun d hd => by cases hd; rfl)
                · intro act W2 hk
                  have eg : act.tmps[68]?.getD undef = .bool true := hk.v 68 (by kernel_rfl)
                  exact Flow.does_skip (wanted_no rfl rfl eg) (fun d hd => by cases hd; rfl)
                · intro act W2 hk
                  have eg : act.tmps[68]?.getD undef = .bool true := hk.v 68 (by kernel_rfl)
                  exact Flow.does_skip (wanted_no rfl rfl eg) (fun d hd => by cases hd; rfl)
                · intro act W2 hk
                  refine Flow.does_intro rfl (fun Kq hK => ?_)
                  have e68 : act.tmps[68]?.getD undef = .bool true := hk.v 68 (by kernel_rfl)
                  clear hk
                  go_simp
                  exact hK _ _ (Ext.refl _) (fun d hd => by cases hd; rfl)
                · intro act W2 hk
                  refine Flow.does_intro rfl (fun Kq hK => ?_)
                  have e71 : act.tmps[71]?.getD undef = .bool true := hk.v 71 (by kernel_rfl)
                  clear hk
                  go_simp
                  exact hK _ _ (Ext.refl _) (fun d hd => by cases hd; rfl)
                · intro act W2 hk
                  have eg : act.tmps[72]?.getD undef = .bool true := hk.v 72 (by kernel_rfl)
                  exact Flow.does_skip (wanted_no rfl rfl eg) (fun d hd => by cases hd; rfl)
                · intro act W2 hk
                  have eg : act.tmps[72]?.getD undef = .bool true := hk.v 72 (by kernel_rfl)
                  exact Flow.does_skip (wanted_no rfl rfl eg) (fun d hd => by cases hd; rfl)
                · intro act W2 hk
                  refine Flow.does_intro rfl (fun Kq hK => ?_)
                  have e72 : act.tmps[72]?.getD undef = .bool true := hk.v 72 (by kernel_rfl)
                  clear hk
                  go_simp
                  exact hK _ _ (Ext.refl _) (fun d hd => by cases hd; rfl)
              · intro act V4 he
                have hxV4 := Hd.mk ((Ext.drew V3).trans he.ext)
                obtain ⟨us, hA, hF⟩ := he.out [53, 54, 55, 56, 57, 58, 59, 60, 61, 62, 63, 64, 65, 66, 67, 68, 69, 70, 71, 72, 73, 74, 75] (by kernel_rfl)
                simp only [Flow.fillL, List.contains_cons, List.contains_nil, Nat.reduceBEq, Bool.or_false, Bool.false_or, Bool.or_true, Bool.true_or, ↓reduceIte, Nat.reduceAdd, Bool.false_eq_true] at hA
                subst hA
                have f75 : us 75 = .bool true := hF 75 (by simp)
                clear hF he
                rw [f75]
                clear f75
                refine (show wpList _ _ _ [] _ _ from ?_)
                go_wp2_with fail
                go_ret
                exact ⟨rfl, hx3.out.trans hxV4.out⟩
    · have hjl : j = l'.length := by omega
      subst hjl
      have hr0 : r = true := by rw [hI.out, ← h6.out, List.drop_length, h6.out, List.drop_length]; rfl
      subst hr0
      go_wp2_with fail
      go_ret
      exact ⟨rfl, hxr.out⟩
  · have hr0 : r = false := by
      cases hs : r with
      | false => rfl
      | true => rw [hs] at hr; exact absurd (sameEL_len _ _ hr) h6
    subst hr0
    have h6' : ((l.length : Int) != (l'.length : Int)) = true := by rw [bne_iff_ne]; omega
    clear hr
    go_enter Try.func39, Try.ntmps39
    go_wp2_with fail
    go_ret
    exact ⟨rfl, Ext.refl _⟩
end Go.Proofs.Ytgkgedjmnbjalaa

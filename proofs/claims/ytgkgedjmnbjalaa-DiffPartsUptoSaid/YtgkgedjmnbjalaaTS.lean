/- Same of the document's edits, of two rows that hold the same.
   Conditions: none. -/
import Derived.Test.YtgkgedjmnbjalaaTO
import Derived.Test.YtgkgedjmnbjalaaTR
set_option linter.unusedSimpArgs false
namespace Go.Proofs.Ytgkgedjmnbjalaa
open Go.RowKit Go.Sort

mutual
theorem sameT_refl : ∀ t : T, sameT t t = true
  | .mk n k d m t l => by rw [sameT_mk]; simp [sameL_refl l]
theorem sameL_refl : ∀ l : List T, sameL l l = true
  | [] => rfl
  | x :: l => by rw [sameL, sameT_refl x, sameL_refl l]; rfl
end

set_option maxRecDepth 100000 in
set_option maxHeartbeats 8000000 in
theorem ref_sameE (es : List E) (w : World) (A1 A2 : Option Addr) (c1 c2 : Nat) (h1 : ERow (fun _ => True) w A1 es c1) (h2 : ERow (fun _ => True) w A2 es c2) :
    Calls Try.prog 39 #[.slice A1 es.length c1, .slice A2 es.length c2] w fun e w' => e = .returned (.bool true) ∧ Ext w w' := by
  have kr1 := Hd.mk h1
  have kr2 := Hd.mk h2
  have hl1 := h1.len
  clear h1 h2
  go_enter Try.func39, Try.ntmps39
  go_wp2_with fail
  go_loopg [5] (es.length + 1) (fun q i wr => ∃ j : Nat, j ≤ es.length ∧ Hd (q = es.length + 1 - j) ∧ i = .int .i64 j ∧ Hd (Ext w wr))
  case atStart => exact ⟨0, by omega, ⟨by omega⟩, rfl, ⟨Ext.refl _⟩⟩
  case round =>
  obtain ⟨j, hj, hq, rfl, hxr⟩ := hrel
  by_cases hlt : j < es.length
  · have hx1 := List.getElem?_eq_getElem hlt
    generalize es[j] = x at hx1
    obtain ⟨b1, o1, d1, rfl, _, hre1, hck⟩ := kr1.out.edit j x hx1
    obtain ⟨b2, o2, d2, rfl, _, hre2, hdk⟩ := kr2.out.edit j x hx1
    obtain ⟨A3, a3, K3, c3, L3, e3, rfl, hw3, hn3, ho3⟩ := hre1
    obtain ⟨A4, a4, K4, c4, L4, e4, rfl, hw4, hn4, ho4⟩ := hre2
    have hlt2 := hlt
    have kcx := Hd.mk (fun (q : Nat) u hq => Ext.cell hxr.out (hck q u hq))
    have kcy := Hd.mk (fun (q : Nat) u hq => Ext.cell hxr.out (hdk q u hq))
    have hst := Hd.mk (fun W (h : Ext w W) => ref_steps x.way x.way _ W A3 A4 a3 a4 (hw3.ext h) (hw4.ext h))
    have hsn := Hd.mk (fun W (h : Ext w W) => ref_same x.node.deep x.node x.node _ W _ _ (Nat.le_refl _) ((RT.of_row hn3).ext h) ((RT.of_row hn4).ext h))
    have hso := Hd.mk (fun W (h : Ext w W) => ref_same x.old.deep x.old x.old _ W _ _ (Nat.le_refl _) ((RT.of_row ho3).ext h) ((RT.of_row ho4).ext h))
    clear hck hdk hx1 hw3 hn3 ho3 hw4 hn4 ho4
    simp only [cT, List.cons_append, List.nil_append] at kcx kcy hsn hso
    simp only [sameT_refl] at hsn hso
    simp only [decide_true] at hst
    go_wp2_with fail
    refine Flow.wp_region_flow_l (fun qq => match qq with
      | 20 => SP.eq (.slice (some ⟨b1, o1, none⟩) es.length c1)
      | 21 => SP.eq (.int .i64 (j : Nat))
      | 22 => SP.eq (.pointer (some ⟨b1, o1 + j * 14, none⟩))
      | 23 => SP.eq (.pointer (some ⟨b1, o1 + j * 14 + 1, none⟩))
      | 24 => SP.eq (.slice A3 x.way.length a3)
      | 25 => SP.eq (.slice (some ⟨b2, o2, none⟩) es.length c2)
      | 26 => SP.eq (.int .i64 (j : Nat))
      | 27 => SP.eq (.pointer (some ⟨b2, o2 + j * 14, none⟩))
      | 28 => SP.eq (.pointer (some ⟨b2, o2 + j * 14 + 1, none⟩))
      | 29 => SP.eq (.slice A4 x.way.length a4)
      | 30 => SP.eq (.bool true)
      | 6 => SP.eq (.bool true)
      | _ => SP.any) 12 (by kernel_rfl) 76 rfl (by kernel_rfl) ?_ ?_
    · skip
      refine ⟨?_, ?_, ?_, ?_, ?_, ?_, ?_, ?_, ?_, ?_, ?_, ?_, trivial⟩
      · intro act W2 hk
        refine Flow.does_intro rfl (fun Kq hK => ?_)
        have e0 : act.tmps[0]?.getD undef = .slice (some ⟨b1, o1, none⟩) es.length c1 := hk.o 0 (by kernel_rfl)
        clear hk
        go_simp
        exact hK _ _ (Ext.refl _) (fun d hd => by cases hd; rfl)
      · intro act W2 hk
        refine Flow.does_intro rfl (fun Kq hK => ?_)
        have e5 : act.tmps[5]?.getD undef = .int .i64 (j : Nat) := hk.o 5 (by kernel_rfl)
        clear hk
        go_simp
        exact hK _ _ (Ext.refl _) (fun d hd => by cases hd; rfl)
      · intro act W2 hk
        refine Flow.does_intro rfl (fun Kq hK => ?_)
        have e20 : act.tmps[20]?.getD undef = .slice (some ⟨b1, o1, none⟩) es.length c1 := hk.v 20 (by kernel_rfl)
        have e21 : act.tmps[21]?.getD undef = .int .i64 (j : Nat) := hk.v 21 (by kernel_rfl)
        clear hk
        go_simp
        exact hK _ _ (Ext.refl _) (fun d hd => by cases hd; rfl)
      · intro act W2 hk
        refine Flow.does_intro rfl (fun Kq hK => ?_)
        have e22 : act.tmps[22]?.getD undef = .pointer (some ⟨b1, o1 + j * 14, none⟩) := hk.v 22 (by kernel_rfl)
        clear hk
        go_simp
        exact hK _ _ (Ext.refl _) (fun d hd => by cases hd; rfl)
      · intro act W2 hk
        refine Flow.does_intro rfl (fun Kq hK => ?_)
        have e23 : act.tmps[23]?.getD undef = .pointer (some ⟨b1, o1 + j * 14 + 1, none⟩) := hk.v 23 (by kernel_rfl)
        have g1 := Ext.cell ((Ext.drew wr).trans hk.ext) ((kcx.out) 1 _ rfl)
        clear hk
        go_simp
        exact hK _ _ (Ext.refl _) (fun d hd => by cases hd; rfl)
      · intro act W2 hk
        refine Flow.does_intro rfl (fun Kq hK => ?_)
        have e1 : act.tmps[1]?.getD undef = .slice (some ⟨b2, o2, none⟩) es.length c2 := hk.o 1 (by kernel_rfl)
        clear hk
        go_simp
        exact hK _ _ (Ext.refl _) (fun d hd => by cases hd; rfl)
      · intro act W2 hk
        refine Flow.does_intro rfl (fun Kq hK => ?_)
        have e5 : act.tmps[5]?.getD undef = .int .i64 (j : Nat) := hk.o 5 (by kernel_rfl)
        clear hk
        go_simp
        exact hK _ _ (Ext.refl _) (fun d hd => by cases hd; rfl)
      · intro act W2 hk
        refine Flow.does_intro rfl (fun Kq hK => ?_)
        have e25 : act.tmps[25]?.getD undef = .slice (some ⟨b2, o2, none⟩) es.length c2 := hk.v 25 (by kernel_rfl)
        have e26 : act.tmps[26]?.getD undef = .int .i64 (j : Nat) := hk.v 26 (by kernel_rfl)
        clear hk
        go_simp
        exact hK _ _ (Ext.refl _) (fun d hd => by cases hd; rfl)
      · intro act W2 hk
        refine Flow.does_intro rfl (fun Kq hK => ?_)
        have e27 : act.tmps[27]?.getD undef = .pointer (some ⟨b2, o2 + j * 14, none⟩) := hk.v 27 (by kernel_rfl)
        clear hk
        go_simp
        exact hK _ _ (Ext.refl _) (fun d hd => by cases hd; rfl)
      · intro act W2 hk
        refine Flow.does_intro rfl (fun Kq hK => ?_)
        have e28 : act.tmps[28]?.getD undef = .pointer (some ⟨b2, o2 + j * 14 + 1, none⟩) := hk.v 28 (by kernel_rfl)
        have g1 := Ext.cell ((Ext.drew wr).trans hk.ext) ((kcy.out) 1 _ rfl)
        clear hk
        go_simp
        exact hK _ _ (Ext.refl _) (fun d hd => by cases hd; rfl)
      · intro act W2 hk
        refine Flow.does_intro rfl (fun Kq hK => ?_)
        have e24 : act.tmps[24]?.getD undef = .slice A3 x.way.length a3 := hk.v 24 (by kernel_rfl)
        have e29 : act.tmps[29]?.getD undef = .slice A4 x.way.length a4 := hk.v 29 (by kernel_rfl)
        have hx0 := Hd.mk ((Ext.drew wr).trans hk.ext)
        clear hk
        go_simp
        refine Calls.mono (hst.out _ (hxr.out.trans hx0.out)) ?_
        rintro e W3 ⟨rfl, hx⟩
        exact hK _ _ hx (fun d hd => by cases hd; rfl)
      · intro act W2 hk
        refine Flow.does_intro rfl (fun Kq hK => ?_)
        have e30 : act.tmps[30]?.getD undef = .bool true := hk.v 30 (by kernel_rfl)
        clear hk
        go_simp
        exact hK _ _ (Ext.refl _) (fun d hd => by cases hd; rfl)
    · intro act V1 he
      have hxV1 := Hd.mk ((Ext.drew wr).trans he.ext)
      obtain ⟨us, hA, hF⟩ := he.out [20, 21, 22, 23, 24, 25, 26, 27, 28, 29, 30, 6] (by kernel_rfl)
      simp only [Flow.fillL, List.contains_cons, List.contains_nil, Nat.reduceBEq, Bool.or_false, Bool.false_or, Bool.or_true, Bool.true_or, ↓reduceIte, Nat.reduceAdd, Bool.false_eq_true] at hA
      subst hA
      have f6 : us 6 = .bool true := hF 6 (by simp)
      clear hF he
      rw [f6]
      clear f6
      have hx1 := Hd.mk (hxr.out.trans hxV1.out)
      have kcx1 := Hd.mk (fun (q : Nat) u hq => Ext.cell hxV1.out (kcx.out q u hq))
      have kcy1 := Hd.mk (fun (q : Nat) u hq => Ext.cell hxV1.out (kcy.out q u hq))
      refine (show wpList _ _ _ [] _ _ from ?_)
      go_wp2_with fail
      refine Flow.wp_region_flow_l (fun qq => match qq with
        | 31 => SP.eq (.slice (some ⟨b1, o1, none⟩) es.length c1)
        | 32 => SP.eq (.int .i64 (j : Nat))
        | 33 => SP.eq (.pointer (some ⟨b1, o1 + j * 14, none⟩))
        | 34 => SP.eq (.pointer (some ⟨b1, o1 + j * 14 + 2, none⟩))
        | 35 => SP.eq (.agg #[.string x.node.name, .string x.node.key, .int .i64 x.node.kind, .int .u64 x.node.num, .string x.node.text, .slice K3 x.node.kids.length c3])
        | 36 => SP.eq (.slice (some ⟨b2, o2, none⟩) es.length c2)
        | 37 => SP.eq (.int .i64 (j : Nat))
        | 38 => SP.eq (.pointer (some ⟨b2, o2 + j * 14, none⟩))
        | 39 => SP.eq (.pointer (some ⟨b2, o2 + j * 14 + 2, none⟩))
        | 40 => SP.eq (.agg #[.string x.node.name, .string x.node.key, .int .i64 x.node.kind, .int .u64 x.node.num, .string x.node.text, .slice K4 x.node.kids.length c4])
        | 41 => SP.eq (.bool true)
        | 7 => SP.eq (.bool true)
        | _ => SP.any) 12 (by kernel_rfl) 76 rfl (by kernel_rfl) ?_ ?_
      · skip
        refine ⟨?_, ?_, ?_, ?_, ?_, ?_, ?_, ?_, ?_, ?_, ?_, ?_, trivial⟩
        · intro act W2 hk
          refine Flow.does_intro rfl (fun Kq hK => ?_)
          have e0 : act.tmps[0]?.getD undef = .slice (some ⟨b1, o1, none⟩) es.length c1 := hk.o 0 (by kernel_rfl)
          clear hk
          go_simp
          exact hK _ _ (Ext.refl _) (fun d hd => by cases hd; rfl)
        · intro act W2 hk
          refine Flow.does_intro rfl (fun Kq hK => ?_)
          have e5 : act.tmps[5]?.getD undef = .int .i64 (j : Nat) := hk.o 5 (by kernel_rfl)
          clear hk
          go_simp
          exact hK _ _ (Ext.refl _) (fun d hd => by cases hd; rfl)
        · intro act W2 hk
          refine Flow.does_intro rfl (fun Kq hK => ?_)
          have e31 : act.tmps[31]?.getD undef = .slice (some ⟨b1, o1, none⟩) es.length c1 := hk.v 31 (by kernel_rfl)
          have e32 : act.tmps[32]?.getD undef = .int .i64 (j : Nat) := hk.v 32 (by kernel_rfl)
          clear hk
          go_simp
          exact hK _ _ (Ext.refl _) (fun d hd => by cases hd; rfl)
        · intro act W2 hk
          refine Flow.does_intro rfl (fun Kq hK => ?_)
          have e33 : act.tmps[33]?.getD undef = .pointer (some ⟨b1, o1 + j * 14, none⟩) := hk.v 33 (by kernel_rfl)
          clear hk
          go_simp
          exact hK _ _ (Ext.refl _) (fun d hd => by cases hd; rfl)
        · intro act W2 hk
          refine Flow.does_intro rfl (fun Kq hK => ?_)
          have e34 : act.tmps[34]?.getD undef = .pointer (some ⟨b1, o1 + j * 14 + 2, none⟩) := hk.v 34 (by kernel_rfl)
          have g2 := Ext.cell ((Ext.drew V1).trans hk.ext) ((kcx1.out) 2 _ rfl)
          have g3 := Ext.cell ((Ext.drew V1).trans hk.ext) ((kcx1.out) 3 _ rfl)
          have g4 := Ext.cell ((Ext.drew V1).trans hk.ext) ((kcx1.out) 4 _ rfl)
          have g5 := Ext.cell ((Ext.drew V1).trans hk.ext) ((kcx1.out) 5 _ rfl)
          have g6 := Ext.cell ((Ext.drew V1).trans hk.ext) ((kcx1.out) 6 _ rfl)
          have g7 := Ext.cell ((Ext.drew V1).trans hk.ext) ((kcx1.out) 7 _ rfl)
          clear hk
          go_simp
          exact hK _ _ (Ext.refl _) (fun d hd => by cases hd; rfl)
        · intro act W2 hk
          refine Flow.does_intro rfl (fun Kq hK => ?_)
          have e1 : act.tmps[1]?.getD undef = .slice (some ⟨b2, o2, none⟩) es.length c2 := hk.o 1 (by kernel_rfl)
          clear hk
          go_simp
          exact hK _ _ (Ext.refl _) (fun d hd => by cases hd; rfl)
        · intro act W2 hk
          refine Flow.does_intro rfl (fun Kq hK => ?_)
          have e5 : act.tmps[5]?.getD undef = .int .i64 (j : Nat) := hk.o 5 (by kernel_rfl)
          clear hk
          go_simp
          exact hK _ _ (Ext.refl _) (fun d hd => by cases hd; rfl)
        · intro act W2 hk
          refine Flow.does_intro rfl (fun Kq hK => ?_)
          have e36 : act.tmps[36]?.getD undef = .slice (some ⟨b2, o2, none⟩) es.length c2 := hk.v 36 (by kernel_rfl)
          have e37 : act.tmps[37]?.getD undef = .int .i64 (j : Nat) := hk.v 37 (by kernel_rfl)
          clear hk
          go_simp
          exact hK _ _ (Ext.refl _) (fun d hd => by cases hd; rfl)
        · intro act W2 hk
          refine Flow.does_intro rfl (fun Kq hK => ?_)
          have e38 : act.tmps[38]?.getD undef = .pointer (some ⟨b2, o2 + j * 14, none⟩) := hk.v 38 (by kernel_rfl)
          clear hk
          go_simp
          exact hK _ _ (Ext.refl _) (fun d hd => by cases hd; rfl)
        · intro act W2 hk
          refine Flow.does_intro rfl (fun Kq hK => ?_)
          have e39 : act.tmps[39]?.getD undef = .pointer (some ⟨b2, o2 + j * 14 + 2, none⟩) := hk.v 39 (by kernel_rfl)
          have g2 := Ext.cell ((Ext.drew V1).trans hk.ext) ((kcy1.out) 2 _ rfl)
          have g3 := Ext.cell ((Ext.drew V1).trans hk.ext) ((kcy1.out) 3 _ rfl)
          have g4 := Ext.cell ((Ext.drew V1).trans hk.ext) ((kcy1.out) 4 _ rfl)
          have g5 := Ext.cell ((Ext.drew V1).trans hk.ext) ((kcy1.out) 5 _ rfl)
          have g6 := Ext.cell ((Ext.drew V1).trans hk.ext) ((kcy1.out) 6 _ rfl)
          have g7 := Ext.cell ((Ext.drew V1).trans hk.ext) ((kcy1.out) 7 _ rfl)
          clear hk
          go_simp
          exact hK _ _ (Ext.refl _) (fun d hd => by cases hd; rfl)
        · intro act W2 hk
          refine Flow.does_intro rfl (fun Kq hK => ?_)
          have e35 : act.tmps[35]?.getD undef = .agg #[.string x.node.name, .string x.node.key, .int .i64 x.node.kind, .int .u64 x.node.num, .string x.node.text, .slice K3 x.node.kids.length c3] := hk.v 35 (by kernel_rfl)
          have e40 : act.tmps[40]?.getD undef = .agg #[.string x.node.name, .string x.node.key, .int .i64 x.node.kind, .int .u64 x.node.num, .string x.node.text, .slice K4 x.node.kids.length c4] := hk.v 40 (by kernel_rfl)
          have hx0 := Hd.mk ((Ext.drew V1).trans hk.ext)
          clear hk
          go_simp
          refine Calls.mono (hsn.out _ (hx1.out.trans hx0.out)) ?_
          rintro e W3 ⟨rfl, hx⟩
          exact hK _ _ hx (fun d hd => by cases hd; rfl)
        · intro act W2 hk
          refine Flow.does_intro rfl (fun Kq hK => ?_)
          have e41 : act.tmps[41]?.getD undef = .bool true := hk.v 41 (by kernel_rfl)
          clear hk
          go_simp
          exact hK _ _ (Ext.refl _) (fun d hd => by cases hd; rfl)
      · intro act V2 he
        have hxV2 := Hd.mk ((Ext.drew V1).trans he.ext)
        obtain ⟨us, hA, hF⟩ := he.out [31, 32, 33, 34, 35, 36, 37, 38, 39, 40, 41, 7] (by kernel_rfl)
        simp only [Flow.fillL, List.contains_cons, List.contains_nil, Nat.reduceBEq, Bool.or_false, Bool.false_or, Bool.or_true, Bool.true_or, ↓reduceIte, Nat.reduceAdd, Bool.false_eq_true] at hA
        subst hA
        have f7 : us 7 = .bool true := hF 7 (by simp)
        clear hF he
        rw [f7]
        clear f7
        have hx2 := Hd.mk (hx1.out.trans hxV2.out)
        have kcx2 := Hd.mk (fun (q : Nat) u hq => Ext.cell hxV2.out (kcx1.out q u hq))
        have kcy2 := Hd.mk (fun (q : Nat) u hq => Ext.cell hxV2.out (kcy1.out q u hq))
        refine (show wpList _ _ _ [] _ _ from ?_)
        go_wp2_with fail
        refine Flow.wp_region_flow_l (fun qq => match qq with
          | 42 => SP.eq (.slice (some ⟨b1, o1, none⟩) es.length c1)
          | 43 => SP.eq (.int .i64 (j : Nat))
          | 44 => SP.eq (.pointer (some ⟨b1, o1 + j * 14, none⟩))
          | 45 => SP.eq (.pointer (some ⟨b1, o1 + j * 14 + 8, none⟩))
          | 46 => SP.eq (.agg #[.string x.old.name, .string x.old.key, .int .i64 x.old.kind, .int .u64 x.old.num, .string x.old.text, .slice L3 x.old.kids.length e3])
          | 47 => SP.eq (.slice (some ⟨b2, o2, none⟩) es.length c2)
          | 48 => SP.eq (.int .i64 (j : Nat))
          | 49 => SP.eq (.pointer (some ⟨b2, o2 + j * 14, none⟩))
          | 50 => SP.eq (.pointer (some ⟨b2, o2 + j * 14 + 8, none⟩))
          | 51 => SP.eq (.agg #[.string x.old.name, .string x.old.key, .int .i64 x.old.kind, .int .u64 x.old.num, .string x.old.text, .slice L4 x.old.kids.length e4])
          | 52 => SP.eq (.bool true)
          | 8 => SP.eq (.bool true)
          | _ => SP.any) 12 (by kernel_rfl) 76 rfl (by kernel_rfl) ?_ ?_
        · skip
          refine ⟨?_, ?_, ?_, ?_, ?_, ?_, ?_, ?_, ?_, ?_, ?_, ?_, trivial⟩
          · intro act W2 hk
            refine Flow.does_intro rfl (fun Kq hK => ?_)
            have e0 : act.tmps[0]?.getD undef = .slice (some ⟨b1, o1, none⟩) es.length c1 := hk.o 0 (by kernel_rfl)
            clear hk
            go_simp
            exact hK _ _ (Ext.refl _) (fun d hd => by cases hd; rfl)
          · intro act W2 hk
            refine Flow.does_intro rfl (fun Kq hK => ?_)
            have e5 : act.tmps[5]?.getD undef = .int .i64 (j : Nat) := hk.o 5 (by kernel_rfl)
            clear hk
            go_simp
            exact hK _ _ (Ext.refl _) (fun d hd => by cases hd; rfl)
          · intro act W2 hk
            refine Flow.does_intro rfl (fun Kq hK => ?_)
            have e42 : act.tmps[42]?.getD undef = .slice (some ⟨b1, o1, none⟩) es.length c1 := hk.v 42 (by kernel_rfl)
            have e43 : act.tmps[43]?.getD undef = .int .i64 (j : Nat) := hk.v 43 (by kernel_rfl)
            clear hk
            go_simp
            exact hK _ _ (Ext.refl _) (fun d hd => by cases hd; rfl)
          · intro act W2 hk
            refine Flow.does_intro rfl (fun Kq hK => ?_)
            have e44 : act.tmps[44]?.getD undef = .pointer (some ⟨b1, o1 + j * 14, none⟩) := hk.v 44 (by kernel_rfl)
            clear hk
            go_simp
            exact hK _ _ (Ext.refl _) (fun d hd => by cases hd; rfl)
          · intro act W2 hk
            refine Flow.does_intro rfl (fun Kq hK => ?_)
            have e45 : act.tmps[45]?.getD undef = .pointer (some ⟨b1, o1 + j * 14 + 8, none⟩) := hk.v 45 (by kernel_rfl)
            have g8 := Ext.cell ((Ext.drew V2).trans hk.ext) ((kcx2.out) 8 _ rfl)
            have g9 := Ext.cell ((Ext.drew V2).trans hk.ext) ((kcx2.out) 9 _ rfl)
            have g10 := Ext.cell ((Ext.drew V2).trans hk.ext) ((kcx2.out) 10 _ rfl)
            have g11 := Ext.cell ((Ext.drew V2).trans hk.ext) ((kcx2.out) 11 _ rfl)
            have g12 := Ext.cell ((Ext.drew V2).trans hk.ext) ((kcx2.out) 12 _ rfl)
            have g13 := Ext.cell ((Ext.drew V2).trans hk.ext) ((kcx2.out) 13 _ rfl)
            clear hk
            go_simp
            exact hK _ _ (Ext.refl _) (fun d hd => by cases hd; rfl)
          · intro act W2 hk
            refine Flow.does_intro rfl (fun Kq hK => ?_)
            have e1 : act.tmps[1]?.getD undef = .slice (some ⟨b2, o2, none⟩) es.length c2 := hk.o 1 (by kernel_rfl)
            clear hk
            go_simp
            exact hK _ _ (Ext.refl _) (fun d hd => by cases hd; rfl)
          · intro act W2 hk
            refine Flow.does_intro rfl (fun Kq hK => ?_)
            have e5 : act.tmps[5]?.getD undef = .int .i64 (j : Nat) := hk.o 5 (by kernel_rfl)
            clear hk
            go_simp
            exact hK _ _ (Ext.refl _) (fun d hd => by cases hd; rfl)
          · intro act W2 hk
            refine Flow.does_intro rfl (fun Kq hK => ?_)
            have e47 : act.tmps[47]?.getD undef = .slice (some ⟨b2, o2, none⟩) es.length c2 := hk.v 47 (by kernel_rfl)
            have e48 : act.tmps[48]?.getD undef = .int .i64 (j : Nat) := hk.v 48 (by kernel_rfl)
            clear hk
            go_simp
            exact hK _ _ (Ext.refl _) (fun d hd => by cases hd; rfl)
          · intro act W2 hk
            refine Flow.does_intro rfl (fun Kq hK => ?_)
            have e49 : act.tmps[49]?.getD undef = .pointer (some ⟨b2, o2 + j * 14, none⟩) := hk.v 49 (by kernel_rfl)
            clear hk
            go_simp
            exact hK _ _ (Ext.refl _) (fun d hd => by cases hd; rfl)
          · intro act W2 hk
            refine Flow.does_intro rfl (fun Kq hK => ?_)
            have e50 : act.tmps[50]?.getD undef = .pointer (some ⟨b2, o2 + j * 14 + 8, none⟩) := hk.v 50 (by kernel_rfl)
            have g8 := Ext.cell ((Ext.drew V2).trans hk.ext) ((kcy2.out) 8 _ rfl)
            have g9 := Ext.cell ((Ext.drew V2).trans hk.ext) ((kcy2.out) 9 _ rfl)
            have g10 := Ext.cell ((Ext.drew V2).trans hk.ext) ((kcy2.out) 10 _ rfl)
            have g11 := Ext.cell ((Ext.drew V2).trans hk.ext) ((kcy2.out) 11 _ rfl)
            have g12 := Ext.cell ((Ext.drew V2).trans hk.ext) ((kcy2.out) 12 _ rfl)
            have g13 := Ext.cell ((Ext.drew V2).trans hk.ext) ((kcy2.out) 13 _ rfl)
            clear hk
            go_simp
            exact hK _ _ (Ext.refl _) (fun d hd => by cases hd; rfl)
          · intro act W2 hk
            refine Flow.does_intro rfl (fun Kq hK => ?_)
            have e46 : act.tmps[46]?.getD undef = .agg #[.string x.old.name, .string x.old.key, .int .i64 x.old.kind, .int .u64 x.old.num, .string x.old.text, .slice L3 x.old.kids.length e3] := hk.v 46 (by kernel_rfl)
            have e51 : act.tmps[51]?.getD undef = .agg #[.string x.old.name, .string x.old.key, .int .i64 x.old.kind, .int .u64 x.old.num, .string x.old.text, .slice L4 x.old.kids.length e4] := hk.v 51 (by kernel_rfl)
            have hx0 := Hd.mk ((Ext.drew V2).trans hk.ext)
            clear hk
            go_simp
            refine Calls.mono (hso.out _ (hx2.out.trans hx0.out)) ?_
            rintro e W3 ⟨rfl, hx⟩
            exact hK _ _ hx (fun d hd => by cases hd; rfl)
          · intro act W2 hk
            refine Flow.does_intro rfl (fun Kq hK => ?_)
            have e52 : act.tmps[52]?.getD undef = .bool true := hk.v 52 (by kernel_rfl)
            clear hk
            go_simp
            exact hK _ _ (Ext.refl _) (fun d hd => by cases hd; rfl)
        · intro act V3 he
          have hxV3 := Hd.mk ((Ext.drew V2).trans he.ext)
          obtain ⟨us, hA, hF⟩ := he.out [42, 43, 44, 45, 46, 47, 48, 49, 50, 51, 52, 8] (by kernel_rfl)
          simp only [Flow.fillL, List.contains_cons, List.contains_nil, Nat.reduceBEq, Bool.or_false, Bool.false_or, Bool.or_true, Bool.true_or, ↓reduceIte, Nat.reduceAdd, Bool.false_eq_true] at hA
          subst hA
          have f8 : us 8 = .bool true := hF 8 (by simp)
          clear hF he
          rw [f8]
          clear f8
          have hx3 := Hd.mk (hx2.out.trans hxV3.out)
          have kcx3 := Hd.mk (fun (q : Nat) u hq => Ext.cell hxV3.out (kcx2.out q u hq))
          have kcy3 := Hd.mk (fun (q : Nat) u hq => Ext.cell hxV3.out (kcy2.out q u hq))
          refine (show wpList _ _ _ [] _ _ from ?_)
          go_wp2_with fail
          refine Flow.wp_region_flow_l (fun qq => match qq with
            | 53 => SP.eq (.slice (some ⟨b1, o1, none⟩) es.length c1)
            | 54 => SP.eq (.int .i64 (j : Nat))
            | 55 => SP.eq (.pointer (some ⟨b1, o1 + j * 14, none⟩))
            | 56 => SP.eq (.pointer (some ⟨b1, o1 + j * 14, none⟩))
            | 57 => SP.eq (.int .i64 x.kind)
            | 58 => SP.eq (.slice (some ⟨b2, o2, none⟩) es.length c2)
            | 59 => SP.eq (.int .i64 (j : Nat))
            | 60 => SP.eq (.pointer (some ⟨b2, o2 + j * 14, none⟩))
            | 61 => SP.eq (.pointer (some ⟨b2, o2 + j * 14, none⟩))
            | 62 => SP.eq (.int .i64 x.kind)
            | 63 => SP.eq (.bool false)
            | 64 => SP.eq (.bool false)
            | 65 => SP.eq (.bool true)
            | 66 => SP.eq (.bool false)
            | 67 => SP.eq (.bool false)
            | 68 => SP.eq (.bool false)
            | 69 => SP.eq (.bool true)
            | 70 => SP.eq (.bool false)
            | 71 => SP.eq (.bool false)
            | 72 => SP.eq (.bool false)
            | 73 => SP.eq (.bool true)
            | 74 => SP.eq (.bool false)
            | 75 => SP.eq (.bool false)
            | _ => SP.any) 23 (by kernel_rfl) 76 rfl (by kernel_rfl) ?_ ?_
          · skip
            refine ⟨?_, ?_, ?_, ?_, ?_, ?_, ?_, ?_, ?_, ?_, ?_, ?_, ?_, ?_, ?_, ?_, ?_, ?_, ?_, ?_, ?_, ?_, ?_, trivial⟩
            · intro act W2 hk
              refine Flow.does_intro rfl (fun Kq hK => ?_)
              have e0 : act.tmps[0]?.getD undef = .slice (some ⟨b1, o1, none⟩) es.length c1 := hk.o 0 (by kernel_rfl)
              clear hk
              go_simp
              exact hK _ _ (Ext.refl _) (fun d hd => by cases hd; rfl)
            · intro act W2 hk
              refine Flow.does_intro rfl (fun Kq hK => ?_)
              have e5 : act.tmps[5]?.getD undef = .int .i64 (j : Nat) := hk.o 5 (by kernel_rfl)
              clear hk
              go_simp
              exact hK _ _ (Ext.refl _) (fun d hd => by cases hd; rfl)
            · intro act W2 hk
              refine Flow.does_intro rfl (fun Kq hK => ?_)
              have e53 : act.tmps[53]?.getD undef = .slice (some ⟨b1, o1, none⟩) es.length c1 := hk.v 53 (by kernel_rfl)
              have e54 : act.tmps[54]?.getD undef = .int .i64 (j : Nat) := hk.v 54 (by kernel_rfl)
              clear hk
              go_simp
              exact hK _ _ (Ext.refl _) (fun d hd => by cases hd; rfl)
            · intro act W2 hk
              refine Flow.does_intro rfl (fun Kq hK => ?_)
              have e55 : act.tmps[55]?.getD undef = .pointer (some ⟨b1, o1 + j * 14, none⟩) := hk.v 55 (by kernel_rfl)
              clear hk
              go_simp
              exact hK _ _ (Ext.refl _) (fun d hd => by cases hd; rfl)
            · intro act W2 hk
              refine Flow.does_intro rfl (fun Kq hK => ?_)
              have e56 : act.tmps[56]?.getD undef = .pointer (some ⟨b1, o1 + j * 14, none⟩) := hk.v 56 (by kernel_rfl)
              have g0 := Ext.cell ((Ext.drew V3).trans hk.ext) ((kcx3.out) 0 _ rfl)
              rw [Nat.add_zero] at g0
              clear hk
              go_simp
              exact hK _ _ (Ext.refl _) (fun d hd => by cases hd; rfl)
            · intro act W2 hk
              refine Flow.does_intro rfl (fun Kq hK => ?_)
              have e1 : act.tmps[1]?.getD undef = .slice (some ⟨b2, o2, none⟩) es.length c2 := hk.o 1 (by kernel_rfl)
              clear hk
              go_simp
              exact hK _ _ (Ext.refl _) (fun d hd => by cases hd; rfl)
            · intro act W2 hk
              refine Flow.does_intro rfl (fun Kq hK => ?_)
              have e5 : act.tmps[5]?.getD undef = .int .i64 (j : Nat) := hk.o 5 (by kernel_rfl)
              clear hk
              go_simp
              exact hK _ _ (Ext.refl _) (fun d hd => by cases hd; rfl)
            · intro act W2 hk
              refine Flow.does_intro rfl (fun Kq hK => ?_)
              have e58 : act.tmps[58]?.getD undef = .slice (some ⟨b2, o2, none⟩) es.length c2 := hk.v 58 (by kernel_rfl)
              have e59 : act.tmps[59]?.getD undef = .int .i64 (j : Nat) := hk.v 59 (by kernel_rfl)
              clear hk
              go_simp
              exact hK _ _ (Ext.refl _) (fun d hd => by cases hd; rfl)
            · intro act W2 hk
              refine Flow.does_intro rfl (fun Kq hK => ?_)
              have e60 : act.tmps[60]?.getD undef = .pointer (some ⟨b2, o2 + j * 14, none⟩) := hk.v 60 (by kernel_rfl)
              clear hk
              go_simp
              exact hK _ _ (Ext.refl _) (fun d hd => by cases hd; rfl)
            · intro act W2 hk
              refine Flow.does_intro rfl (fun Kq hK => ?_)
              have e61 : act.tmps[61]?.getD undef = .pointer (some ⟨b2, o2 + j * 14, none⟩) := hk.v 61 (by kernel_rfl)
              have g0 := Ext.cell ((Ext.drew V3).trans hk.ext) ((kcy3.out) 0 _ rfl)
              rw [Nat.add_zero] at g0
              clear hk
              go_simp
              exact hK _ _ (Ext.refl _) (fun d hd => by cases hd; rfl)
            · intro act W2 hk
              refine Flow.does_intro rfl (fun Kq hK => ?_)
              have e57 : act.tmps[57]?.getD undef = .int .i64 x.kind := hk.v 57 (by kernel_rfl)
              have e62 : act.tmps[62]?.getD undef = .int .i64 x.kind := hk.v 62 (by kernel_rfl)
              clear hk
              go_simp
              exact hK _ _ (Ext.refl _) (fun d hd => by cases hd; rfl)
            · intro act W2 hk
              refine Flow.does_intro rfl (fun Kq hK => ?_)
              have e63 : act.tmps[63]?.getD undef = .bool false := hk.v 63 (by kernel_rfl)
              clear hk
              go_simp
              exact hK _ _ (Ext.refl _) (fun d hd => by cases hd; rfl)
            · intro act W2 hk
              have eg : act.tmps[64]?.getD undef = .bool false := hk.v 64 (by kernel_rfl)
              refine Flow.does_intro (wanted_yes rfl rfl eg) (fun Kq hK => ?_)
              clear eg
              have e6 : act.tmps[6]?.getD undef = .bool true := hk.o 6 (by kernel_rfl)
              clear hk
              go_simp
              exact hK _ _ (Ext.refl _) (fun d hd => by cases hd; rfl)
            · intro act W2 hk
              have eg : act.tmps[64]?.getD undef = .bool false := hk.v 64 (by kernel_rfl)
              refine Flow.does_intro (wanted_yes rfl rfl eg) (fun Kq hK => ?_)
              clear eg
              have e65 : act.tmps[65]?.getD undef = .bool true := hk.v 65 (by kernel_rfl)
              clear hk
              go_simp
              exact hK _ _ (Ext.refl _) (fun d hd => by cases hd; rfl)
            · intro act W2 hk
              refine Flow.does_intro rfl (fun Kq hK => ?_)
              have e64 : act.tmps[64]?.getD undef = .bool false := hk.v 64 (by kernel_rfl)
              have e66 : act.tmps[66]?.getD undef = .bool false := hk.v 66 (by kernel_rfl)
              clear hk
              go_simp
              exact hK _ _ (Ext.refl _) (fun d hd => by cases hd; rfl)
            · intro act W2 hk
              refine Flow.does_intro rfl (fun Kq hK => ?_)
              have e67 : act.tmps[67]?.getD undef = .bool false := hk.v 67 (by kernel_rfl)
              clear hk
              go_simp
              exact hK _ _ (Ext.refl _) (fun d hd => by cases hd; rfl)
            · intro act W2 hk
              have eg : act.tmps[68]?.getD undef = .bool false := hk.v 68 (by kernel_rfl)
              refine Flow.does_intro (wanted_yes rfl rfl eg) (fun Kq hK => ?_)
              clear eg
              have e7 : act.tmps[7]?.getD undef = .bool true := hk.o 7 (by kernel_rfl)
              clear hk
              go_simp
              exact hK _ _ (Ext.refl _) (fun d hd => by cases hd; rfl)
            · intro act W2 hk
              have eg : act.tmps[68]?.getD undef = .bool false := hk.v 68 (by kernel_rfl)
              refine Flow.does_intro (wanted_yes rfl rfl eg) (fun Kq hK => ?_)
              clear eg
              have e69 : act.tmps[69]?.getD undef = .bool true := hk.v 69 (by kernel_rfl)
              clear hk
              go_simp
              exact hK _ _ (Ext.refl _) (fun d hd => by cases hd; rfl)
            · intro act W2 hk
              refine Flow.does_intro rfl (fun Kq hK => ?_)
              have e68 : act.tmps[68]?.getD undef = .bool false := hk.v 68 (by kernel_rfl)
              have e70 : act.tmps[70]?.getD undef = .bool false := hk.v 70 (by kernel_rfl)
              clear hk
              go_simp
              exact hK _ _ (Ext.refl _) (fun d hd => by cases hd; rfl)
            · intro act W2 hk
              refine Flow.does_intro rfl (fun Kq hK => ?_)
              have e71 : act.tmps[71]?.getD undef = .bool false := hk.v 71 (by kernel_rfl)
              clear hk
              go_simp
              exact hK _ _ (Ext.refl _) (fun d hd => by cases hd; rfl)
            · intro act W2 hk
              have eg : act.tmps[72]?.getD undef = .bool false := hk.v 72 (by kernel_rfl)
              refine Flow.does_intro (wanted_yes rfl rfl eg) (fun Kq hK => ?_)
              clear eg
              have e8 : act.tmps[8]?.getD undef = .bool true := hk.o 8 (by kernel_rfl)
              clear hk
              go_simp
              exact hK _ _ (Ext.refl _) (fun d hd => by cases hd; rfl)
            · intro act W2 hk
              have eg : act.tmps[72]?.getD undef = .bool false := hk.v 72 (by kernel_rfl)
              refine Flow.does_intro (wanted_yes rfl rfl eg) (fun Kq hK => ?_)
              clear eg
              have e73 : act.tmps[73]?.getD undef = .bool true := hk.v 73 (by kernel_rfl)
              clear hk
              go_simp
              exact hK _ _ (Ext.refl _) (fun d hd => by cases hd; rfl)
            · intro act W2 hk
              refine Flow.does_intro rfl (fun Kq hK => ?_)
              have e72 : act.tmps[72]?.getD undef = .bool false := hk.v 72 (by kernel_rfl)
              have e74 : act.tmps[74]?.getD undef = .bool false := hk.v 74 (by kernel_rfl)
              clear hk
              go_simp
              exact hK _ _ (Ext.refl _) (fun d hd => by cases hd; rfl)
          · intro act V4 he
            have hxV4 := Hd.mk ((Ext.drew V3).trans he.ext)
            obtain ⟨us, hA, hF⟩ := he.out [53, 54, 55, 56, 57, 58, 59, 60, 61, 62, 63, 64, 65, 66, 67, 68, 69, 70, 71, 72, 73, 74, 75] (by kernel_rfl)
            simp only [Flow.fillL, List.contains_cons, List.contains_nil, Nat.reduceBEq, Bool.or_false, Bool.false_or, Bool.or_true, Bool.true_or, ↓reduceIte, Nat.reduceAdd, Bool.false_eq_true] at hA
            subst hA
            have f75 : us 75 = .bool false := hF 75 (by simp)
            clear hF he
            rw [f75]
            clear f75
            refine (show wpList _ _ _ [] _ _ from ?_)
            go_wp2_with fail
            go_roundg (es.length + 1 - (j + 1))
            case measure => have := hq.out; omega
            case rel => exact ⟨j + 1, by omega, ⟨rfl⟩, by go_num, ⟨hx3.out.trans hxV4.out⟩⟩
  · have hjl : j = es.length := by omega
    subst hjl
    go_wp2_with fail
    go_ret
    exact ⟨rfl, hxr.out⟩
end Go.Proofs.Ytgkgedjmnbjalaa

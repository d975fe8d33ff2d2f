/- Texts that the law needs, joined.
   Conditions: none. -/
import Derived.Test.YtgkgedjmnbjalaaTqE
import Derived.Test.YtgkgedjmnbjalaaTqA
import Derived.Test.YtgkgedjmnbjalaaTqF
set_option linter.unusedSimpArgs false
set_option linter.unusedVariables false
namespace Go.Proofs.Ytgkgedjmnbjalaa
open Go.RowKit Go.Sort
theorem cmp_lt {x y : It} {b : Bool} (h : ltI x y = b) : decide (cmpT x.1 y.1 < 0) = b := by rw [cmpT_neg]; exact h
set_option maxRecDepth 100000 in
set_option maxHeartbeats 4000000 in
theorem ins_sort (pre seg post : List It) (sp : List Value) (g cap a b n : Nat) (w : World) (hb : Blk w g (rowI (pre ++ seg ++ post) ++ sp) 54) (ha : a = pre.length) (hbb : b = pre.length + seg.length) (hn : n = (pre ++ seg ++ post).length) (hcap : n ≤ cap) (hm : n ≤ 1048576) :
    Calls Try.prog 156 #[.slice (some ⟨g, 0, none⟩) n cap, .int .i64 a, .int .i64 b, .func (.func 116) #[] #[]] w fun e w' => e = .returned (.tuple #[]) ∧ Blk w' g (rowI (pre ++ isortG ltI seg ++ post) ++ sp) 54 ∧ w.grownBy w' (some g) := by
  have hlen : n = pre.length + seg.length + post.length := by rw [hn, List.length_append, List.length_append]
  have han : a + seg.length + post.length = n := by omega
  have hbn : b = a + seg.length := by omega
  replace ha := Hd.mk ha
  replace hbb := Hd.mk hbb
  replace hn := Hd.mk hn
  replace hb := Hd.mk hb
  clear hlen
  have hw1 : IntKind.i64.wrap ((a : Int) + 1) = ((a + 1 : Nat) : Int) := by rw [IntKind.wrap_i64]; omega
  replace han := Hd.mk han
  replace hbn := Hd.mk hbn
  go_enter Try.func156, Try.ntmps156
  go_wp2_with fail
  clear hw1
  go_loopg [8] (seg.length + 1) (fun q i wr => ∃ k i0 : Nat, Hd (i0 = a + k) ∧ k ≤ seg.length + 1 ∧ 1 ≤ k ∧ Hd (q = seg.length + 2 - k) ∧ i = .int .i64 i0 ∧ Hd (Blk wr g (rowI (pre ++ isortG ltI (seg.take k) ++ (seg.drop k ++ post)) ++ sp) 54) ∧ Hd (w.grownBy wr (some g)))
  case atStart => exact ⟨1, a + 1, ⟨rfl⟩, by omega, Nat.le_refl _, ⟨by omega⟩, rfl, ⟨by
    have h1 : isortG ltI (seg.take 1) = seg.take 1 := by cases seg <;> rfl
    rw [h1, ← List.append_assoc, List.append_assoc pre, List.take_append_drop]
    exact hb.out⟩, ⟨grown_ext (Ext.refl _)⟩⟩
  case round =>
  clear hb
  obtain ⟨k, i0, hi0, hk1, hk0, hq, rfl, hrow, hgr⟩ := hrel
  by_cases hlt : k < seg.length
  · have hx := List.getElem?_eq_getElem hlt
    have hdr := List.drop_eq_getElem_cons hlt
    generalize seg[k] = x at hx hdr
    rw [hdr] at hrow
    have htk := Hd.mk (isortG_take ltI hx)
    have hal := isortG_len ltI (seg.take k)
    rw [List.length_take] at hal
    generalize isortG ltI (seg.take k) = acc at *
    have hac : acc.length = k := by omega
    clear hx hdr hal
    have hlt0 : (i0 : Int) < (b : Int) := by have := hbn.out; have := hi0.out; omega
    have hi0n : i0 < n := by have := han.out; have := hi0.out; omega
    replace hac := Hd.mk hac
    go_wp2_with fail
    go_loopg [9] (acc.length + 1) (fun q i wq => ∃ (P Q : List It) (j : Nat), Hd (j = a + P.length) ∧ Hd (acc = P ++ Q) ∧ Hd (q = P.length + 1) ∧ i = .int .i64 j ∧ Hd (∀ e ∈ Q, ltI x e = true) ∧ Hd (Blk wq g (rowI (pre ++ P ++ x :: (Q ++ (seg.drop (k + 1) ++ post))) ++ sp) 54) ∧ Hd (w.grownBy wq (some g)))
    case atStart => exact ⟨acc, [], i0, ⟨by rw [hac.out]; exact hi0.out⟩, ⟨by simp⟩, ⟨rfl⟩, rfl, ⟨by simp⟩, ⟨by simpa using hrow.out⟩, hgr⟩
    case round =>
    clear hrow hgr hlt0
    obtain ⟨P, Q, j, hjP, hPQ, hq2, rfl, hab, hrow, hgr⟩ := hrel
    have hPk : P.length ≤ k := by have h1 := congrArg List.length hPQ.out; rw [List.length_append, hac.out] at h1; omega
    replace hPk := Hd.mk hPk
    generalize wr = V0 at *
    rcases List.eq_nil_or_concat P with hP0 | ⟨P2, y, hP0⟩
    · subst hP0
      have hout : Hd (isortG ltI (seg.take (k + 1)) = [] ++ x :: Q) := ⟨by rw [htk.out, hPQ.out, insG_at hab.out (fun P' y h => by simp at h)]⟩
      have hja := Hd.mk (show j = a from hjP.out)
      go_wp2_with fail
      refine Flow.wp_region_flow_l (fun qq => match qq with
        | 18 => SP.eq (.int .i64 (j : Nat))
        | 19 => SP.eq (.int .i64 (a : Nat))
        | 20 => SP.eq (.bool false)
        | 21 => SP.eq (.bool false)
        | 22 => SP.eq (undef)
        | 23 => SP.eq (undef)
        | 24 => SP.eq (undef)
        | 25 => SP.eq (undef)
        | 26 => SP.eq (undef)
        | 27 => SP.eq (undef)
        | 28 => SP.eq (undef)
        | 29 => SP.eq (undef)
        | 30 => SP.eq (undef)
        | 31 => SP.eq (undef)
        | 32 => SP.eq (undef)
        | 33 => SP.eq (undef)
        | 34 => SP.eq (.bool false)
        | _ => SP.any) 17 (by kernel_rfl) 53 rfl (by kernel_rfl) ?_ ?_
      · skip
        refine ⟨?_, ?_, ?_, ?_, ?_, ?_, ?_, ?_, ?_, ?_, ?_, ?_, ?_, ?_, ?_, ?_, ?_, trivial⟩
        · intro act W2 hk
          refine Flow.does_intro rfl (fun Kq hK => ?_)
          have e9 : act.tmps[9]?.getD undef = .int .i64 (j : Nat) := hk.o 9 (by kernel_rfl)
          clear hk
          go_simp
          exact hK _ _ (Ext.refl _) (fun d hd => by cases hd; rfl)
        · intro act W2 hk
          refine Flow.does_intro rfl (fun Kq hK => ?_)
          have e1 : act.tmps[1]?.getD undef = .int .i64 (a : Nat) := hk.o 1 (by kernel_rfl)
          clear hk
          go_simp
          exact hK _ _ (Ext.refl _) (fun d hd => by cases hd; rfl)
        · intro act W2 hk
          refine Flow.does_intro rfl (fun Kq hK => ?_)
          have e18 : act.tmps[18]?.getD undef = .int .i64 (j : Nat) := hk.v 18 (by kernel_rfl)
          have e19 : act.tmps[19]?.getD undef = .int .i64 (a : Nat) := hk.v 19 (by kernel_rfl)
          clear hk
          go_simp
          exact hK _ _ (Ext.refl _) (fun d hd => by cases hd; have h1 := hja.out; simp [SP.eq]; omega)
        · intro act W2 hk
          refine Flow.does_intro rfl (fun Kq hK => ?_)
          have e20 : act.tmps[20]?.getD undef = .bool false := hk.v 20 (by kernel_rfl)
          clear hk
          go_simp
          exact hK _ _ (Ext.refl _) (fun d hd => by cases hd; rfl)
        · intro act W2 hk
          have eg : act.tmps[21]?.getD undef = .bool false := hk.v 21 (by kernel_rfl)
          exact Flow.does_skip (wanted_no rfl rfl eg) (fun d hd => by cases hd; rfl)
        · intro act W2 hk
          have eg : act.tmps[21]?.getD undef = .bool false := hk.v 21 (by kernel_rfl)
          exact Flow.does_skip (wanted_no rfl rfl eg) (fun d hd => by cases hd; rfl)
        · intro act W2 hk
          have eg : act.tmps[21]?.getD undef = .bool false := hk.v 21 (by kernel_rfl)
          exact Flow.does_skip (wanted_no rfl rfl eg) (fun d hd => by cases hd; rfl)
        · intro act W2 hk
          have eg : act.tmps[21]?.getD undef = .bool false := hk.v 21 (by kernel_rfl)
          exact Flow.does_skip (wanted_no rfl rfl eg) (fun d hd => by cases hd; rfl)
        · intro act W2 hk
          have eg : act.tmps[21]?.getD undef = .bool false := hk.v 21 (by kernel_rfl)
          exact Flow.does_skip (wanted_no rfl rfl eg) (fun d hd => by cases hd; rfl)
        · intro act W2 hk
          have eg : act.tmps[21]?.getD undef = .bool false := hk.v 21 (by kernel_rfl)
          exact Flow.does_skip (wanted_no rfl rfl eg) (fun d hd => by cases hd; rfl)
        · intro act W2 hk
          have eg : act.tmps[21]?.getD undef = .bool false := hk.v 21 (by kernel_rfl)
          exact Flow.does_skip (wanted_no rfl rfl eg) (fun d hd => by cases hd; rfl)
        · intro act W2 hk
          have eg : act.tmps[21]?.getD undef = .bool false := hk.v 21 (by kernel_rfl)
          exact Flow.does_skip (wanted_no rfl rfl eg) (fun d hd => by cases hd; rfl)
        · intro act W2 hk
          have eg : act.tmps[21]?.getD undef = .bool false := hk.v 21 (by kernel_rfl)
          exact Flow.does_skip (wanted_no rfl rfl eg) (fun d hd => by cases hd; rfl)
        · intro act W2 hk
          have eg : act.tmps[21]?.getD undef = .bool false := hk.v 21 (by kernel_rfl)
          exact Flow.does_skip (wanted_no rfl rfl eg) (fun d hd => by cases hd; rfl)
        · intro act W2 hk
          have eg : act.tmps[21]?.getD undef = .bool false := hk.v 21 (by kernel_rfl)
          exact Flow.does_skip (wanted_no rfl rfl eg) (fun d hd => by cases hd; rfl)
        · intro act W2 hk
          have eg : act.tmps[21]?.getD undef = .bool false := hk.v 21 (by kernel_rfl)
          exact Flow.does_skip (wanted_no rfl rfl eg) (fun d hd => by cases hd; rfl)
        · intro act W2 hk
          refine Flow.does_intro rfl (fun Kq hK => ?_)
          have e21 : act.tmps[21]?.getD undef = .bool false := hk.v 21 (by kernel_rfl)
          clear hk
          go_simp
          exact hK _ _ (Ext.refl _) (fun d hd => by cases hd; rfl)
      · intro act W2 he
        have hxW2 := Hd.mk ((Ext.drew V0).trans he.ext)
        obtain ⟨us, hA, hF⟩ := he.out [18, 19, 20, 21, 22, 23, 24, 25, 26, 27, 28, 29, 30, 31, 32, 33, 34] (by kernel_rfl)
        simp only [Flow.fillL, List.contains_cons, List.contains_nil, Nat.reduceBEq, Bool.or_false, Bool.false_or, Bool.or_true, Bool.true_or, ↓reduceIte, Nat.reduceAdd, Bool.false_eq_true] at hA
        subst hA
        have f34 : us 34 = .bool false := hF 34 (by simp)
        clear hF he
        rw [f34]
        clear f34
        refine (show wpList _ _ _ [] _ _ from ?_)
        have hrow2 := Hd.mk (hrow.out.ext hxW2.out)
        have hgr2 := Hd.mk (grown_trans hgr.out (grown_ext hxW2.out))
        clear hrow hgr hxW2
        go_wp2_with fail
        go_roundg (seg.length + 2 - (k + 1))
        case measure => have := hq.out; omega
        case rel => exact ⟨k + 1, i0 + 1, ⟨by rw [hi0.out]; omega⟩, by omega, by omega, ⟨rfl⟩, by go_num, ⟨by rw [hout.out]; simpa using hrow2.out⟩, hgr2⟩
    · rw [List.concat_eq_append] at hP0
      subst hP0
      have hlj : P2.length < k := by have := hPk.out; simp at this; omega
      have hj1 : j = a + P2.length + 1 := by rw [hjP.out]; simp; omega
      have hrow' : Blk V0 g (rowI ((pre ++ P2) ++ y :: x :: (Q ++ (seg.drop (k + 1) ++ post))) ++ sp) 54 := by simpa using hrow.out
      have hpl : (pre ++ P2).length = a + P2.length := by rw [List.length_append, ha.out]
      have hlb : a + P2.length + 1 < n := by have := han.out; omega
      have hcy := Hd.mk (rowI_cell hrow' (i := a + P2.length) (x := y) (by rw [← hpl]; exact at_len _ _ _))
      have hcx := Hd.mk (rowI_cell hrow' (i := a + P2.length + 1) (x := x) (by rw [← hpl]; exact at_len1 _ _ _ _))
      have hcmp := Hd.mk (fun w => tree_compare x.1 y.1 x.2.1 y.2.1 x.1.kids.length x.2.2 y.1.kids.length y.2.2 w)
      simp only [cT, cI] at hcmp hcx hcy
      have hln : (((pre ++ P2) ++ y :: x :: (Q ++ (seg.drop (k + 1) ++ post))).length : Nat) = n := by
        rw [hn.out]
        have h1 := congrArg List.length hPQ.out
        have h2 := hac.out
        simp only [List.length_append, List.length_cons, List.length_nil, List.length_drop] at h1 ⊢
        omega
      replace hrow' := Hd.mk hrow'
      replace hln := Hd.mk hln
      replace hpl := Hd.mk hpl
      rw [← hj1] at hlb hcx
      generalize hjd : a + P2.length = j2 at *
      replace hjd := Hd.mk hjd
      have hlb1 : j2 < n := by omega
      replace hj1 := Hd.mk hj1
      have hlb0 : (j : Int) < (n : Int) := by omega
      have hlb2 : (j2 : Int) < (n : Int) := by omega
      clear hPk
      cases hle : ltI x y with
      | true =>
        have hneg := Hd.mk (cmp_lt hle)
        go_wp2_with fail
        refine Flow.wp_region_flow_l (fun qq => match qq with
          | 18 => SP.eq (.int .i64 (j : Nat))
          | 19 => SP.eq (.int .i64 (a : Nat))
          | 20 => SP.eq (.bool true)
          | 21 => SP.eq (.bool true)
          | 22 => SP.eq (.func (.func 116) #[] #[])
          | 23 => SP.eq (.slice (some ⟨g, 0, none⟩) n cap)
          | 24 => SP.eq (.int .i64 (j : Nat))
          | 25 => SP.eq (.pointer (some ⟨g, j * 6, none⟩))
          | 26 => SP.eq (.agg #[.string x.1.name, .string x.1.key, .int .i64 x.1.kind, .int .u64 x.1.num, .string x.1.text, .slice x.2.1 x.1.kids.length x.2.2])
          | 27 => SP.eq (.slice (some ⟨g, 0, none⟩) n cap)
          | 28 => SP.eq (.int .i64 (j : Nat))
          | 29 => SP.eq (.int .i64 (j2 : Nat))
          | 30 => SP.eq (.pointer (some ⟨g, j2 * 6, none⟩))
          | 31 => SP.eq (.agg #[.string y.1.name, .string y.1.key, .int .i64 y.1.kind, .int .u64 y.1.num, .string y.1.text, .slice y.2.1 y.1.kids.length y.2.2])
          | 32 => SP.eq (.int .i64 (cmpT x.1 y.1))
          | 33 => SP.eq (.bool true)
          | 34 => SP.eq (.bool true)
          | _ => SP.any) 17 (by kernel_rfl) 53 rfl (by kernel_rfl) ?_ ?_
        · skip
          refine ⟨?_, ?_, ?_, ?_, ?_, ?_, ?_, ?_, ?_, ?_, ?_, ?_, ?_, ?_, ?_, ?_, ?_, trivial⟩
          · intro act W2 hk
            refine Flow.does_intro rfl (fun Kq hK => ?_)
            have e9 : act.tmps[9]?.getD undef = .int .i64 (j : Nat) := hk.o 9 (by kernel_rfl)
            clear hk
            go_simp
            exact hK _ _ (Ext.refl _) (fun d hd => by cases hd; rfl)
          · intro act W2 hk
            refine Flow.does_intro rfl (fun Kq hK => ?_)
            have e1 : act.tmps[1]?.getD undef = .int .i64 (a : Nat) := hk.o 1 (by kernel_rfl)
            clear hk
            go_simp
            exact hK _ _ (Ext.refl _) (fun d hd => by cases hd; rfl)
          · intro act W2 hk
            refine Flow.does_intro rfl (fun Kq hK => ?_)
            have e18 : act.tmps[18]?.getD undef = .int .i64 (j : Nat) := hk.v 18 (by kernel_rfl)
            have e19 : act.tmps[19]?.getD undef = .int .i64 (a : Nat) := hk.v 19 (by kernel_rfl)
            clear hk
            go_simp
            exact hK _ _ (Ext.refl _) (fun d hd => by cases hd; have h1 := hjd.out; have h2 := hj1.out; simp [SP.eq]; omega)
          · intro act W2 hk
            refine Flow.does_intro rfl (fun Kq hK => ?_)
            have e20 : act.tmps[20]?.getD undef = .bool true := hk.v 20 (by kernel_rfl)
            clear hk
            go_simp
            exact hK _ _ (Ext.refl _) (fun d hd => by cases hd; rfl)
          · intro act W2 hk
            have eg : act.tmps[21]?.getD undef = .bool true := hk.v 21 (by kernel_rfl)
            refine Flow.does_intro (wanted_yes rfl rfl eg) (fun Kq hK => ?_)
            clear eg
            have e3 : act.tmps[3]?.getD undef = .func (.func 116) #[] #[] := hk.o 3 (by kernel_rfl)
            clear hk
            go_simp
            exact hK _ _ (Ext.refl _) (fun d hd => by cases hd; rfl)
          · intro act W2 hk
            have eg : act.tmps[21]?.getD undef = .bool true := hk.v 21 (by kernel_rfl)
            refine Flow.does_intro (wanted_yes rfl rfl eg) (fun Kq hK => ?_)
            clear eg
            have e0 : act.tmps[0]?.getD undef = .slice (some ⟨g, 0, none⟩) n cap := hk.o 0 (by kernel_rfl)
            clear hk
            go_simp
            exact hK _ _ (Ext.refl _) (fun d hd => by cases hd; rfl)
          · intro act W2 hk
            have eg : act.tmps[21]?.getD undef = .bool true := hk.v 21 (by kernel_rfl)
            refine Flow.does_intro (wanted_yes rfl rfl eg) (fun Kq hK => ?_)
            clear eg
            have e9 : act.tmps[9]?.getD undef = .int .i64 (j : Nat) := hk.o 9 (by kernel_rfl)
            clear hk
            go_simp
            exact hK _ _ (Ext.refl _) (fun d hd => by cases hd; rfl)
          · intro act W2 hk
            have eg : act.tmps[21]?.getD undef = .bool true := hk.v 21 (by kernel_rfl)
            refine Flow.does_intro (wanted_yes rfl rfl eg) (fun Kq hK => ?_)
            clear eg
            have e23 : act.tmps[23]?.getD undef = .slice (some ⟨g, 0, none⟩) n cap := hk.v 23 (by kernel_rfl)
            have e24 : act.tmps[24]?.getD undef = .int .i64 (j : Nat) := hk.v 24 (by kernel_rfl)
            clear hk
            go_simp
            exact hK _ _ (Ext.refl _) (fun d hd => by cases hd; rfl)
          · intro act W2 hk
            have eg : act.tmps[21]?.getD undef = .bool true := hk.v 21 (by kernel_rfl)
            refine Flow.does_intro (wanted_yes rfl rfl eg) (fun Kq hK => ?_)
            clear eg
            have e25 : act.tmps[25]?.getD undef = .pointer (some ⟨g, j * 6, none⟩) := hk.v 25 (by kernel_rfl)
            have g0 := Ext.cell ((Ext.drew V0).trans hk.ext) ((hcx.out) 0 _ rfl)
            rw [Nat.add_zero] at g0
            have g1 := Ext.cell ((Ext.drew V0).trans hk.ext) ((hcx.out) 1 _ rfl)
            have g2 := Ext.cell ((Ext.drew V0).trans hk.ext) ((hcx.out) 2 _ rfl)
            have g3 := Ext.cell ((Ext.drew V0).trans hk.ext) ((hcx.out) 3 _ rfl)
            have g4 := Ext.cell ((Ext.drew V0).trans hk.ext) ((hcx.out) 4 _ rfl)
            have g5 := Ext.cell ((Ext.drew V0).trans hk.ext) ((hcx.out) 5 _ rfl)
            clear hk
            go_simp
            exact hK _ _ (Ext.refl _) (fun d hd => by cases hd; rfl)
          · intro act W2 hk
            have eg : act.tmps[21]?.getD undef = .bool true := hk.v 21 (by kernel_rfl)
            refine Flow.does_intro (wanted_yes rfl rfl eg) (fun Kq hK => ?_)
            clear eg
            have e0 : act.tmps[0]?.getD undef = .slice (some ⟨g, 0, none⟩) n cap := hk.o 0 (by kernel_rfl)
            clear hk
            go_simp
            exact hK _ _ (Ext.refl _) (fun d hd => by cases hd; rfl)
          · intro act W2 hk
            have eg : act.tmps[21]?.getD undef = .bool true := hk.v 21 (by kernel_rfl)
            refine Flow.does_intro (wanted_yes rfl rfl eg) (fun Kq hK => ?_)
            clear eg
            have e9 : act.tmps[9]?.getD undef = .int .i64 (j : Nat) := hk.o 9 (by kernel_rfl)
            clear hk
            go_simp
            exact hK _ _ (Ext.refl _) (fun d hd => by cases hd; rfl)
          · intro act W2 hk
            have eg : act.tmps[21]?.getD undef = .bool true := hk.v 21 (by kernel_rfl)
            refine Flow.does_intro (wanted_yes rfl rfl eg) (fun Kq hK => ?_)
            clear eg
            have e28 : act.tmps[28]?.getD undef = .int .i64 (j : Nat) := hk.v 28 (by kernel_rfl)
            clear hk
            go_simp
            exact hK _ _ (Ext.refl _) (fun d hd => by cases hd; have h1 := hj1.out; have h2 := hlb; simp [SP.eq]; first | omega | (rw [IntKind.wrap_i64]; omega) | (unfold wrap64; omega))
          · intro act W2 hk
            have eg : act.tmps[21]?.getD undef = .bool true := hk.v 21 (by kernel_rfl)
            refine Flow.does_intro (wanted_yes rfl rfl eg) (fun Kq hK => ?_)
            clear eg
            have e27 : act.tmps[27]?.getD undef = .slice (some ⟨g, 0, none⟩) n cap := hk.v 27 (by kernel_rfl)
            have e29 : act.tmps[29]?.getD undef = .int .i64 (j2 : Nat) := hk.v 29 (by kernel_rfl)
            clear hk
            go_simp
            exact hK _ _ (Ext.refl _) (fun d hd => by cases hd; rfl)
          · intro act W2 hk
            have eg : act.tmps[21]?.getD undef = .bool true := hk.v 21 (by kernel_rfl)
            refine Flow.does_intro (wanted_yes rfl rfl eg) (fun Kq hK => ?_)
            clear eg
            have e30 : act.tmps[30]?.getD undef = .pointer (some ⟨g, j2 * 6, none⟩) := hk.v 30 (by kernel_rfl)
            have g0 := Ext.cell ((Ext.drew V0).trans hk.ext) ((hcy.out) 0 _ rfl)
            rw [Nat.add_zero] at g0
            have g1 := Ext.cell ((Ext.drew V0).trans hk.ext) ((hcy.out) 1 _ rfl)
            have g2 := Ext.cell ((Ext.drew V0).trans hk.ext) ((hcy.out) 2 _ rfl)
            have g3 := Ext.cell ((Ext.drew V0).trans hk.ext) ((hcy.out) 3 _ rfl)
            have g4 := Ext.cell ((Ext.drew V0).trans hk.ext) ((hcy.out) 4 _ rfl)
            have g5 := Ext.cell ((Ext.drew V0).trans hk.ext) ((hcy.out) 5 _ rfl)
            clear hk
            go_simp
            exact hK _ _ (Ext.refl _) (fun d hd => by cases hd; rfl)
          · intro act W2 hk
            have eg : act.tmps[21]?.getD undef = .bool true := hk.v 21 (by kernel_rfl)
            refine Flow.does_intro (wanted_yes rfl rfl eg) (fun Kq hK => ?_)
            clear eg
            have e22 : act.tmps[22]?.getD undef = .func (.func 116) #[] #[] := hk.v 22 (by kernel_rfl)
            have e26 : act.tmps[26]?.getD undef = .agg #[.string x.1.name, .string x.1.key, .int .i64 x.1.kind, .int .u64 x.1.num, .string x.1.text, .slice x.2.1 x.1.kids.length x.2.2] := hk.v 26 (by kernel_rfl)
            have e31 : act.tmps[31]?.getD undef = .agg #[.string y.1.name, .string y.1.key, .int .i64 y.1.kind, .int .u64 y.1.num, .string y.1.text, .slice y.2.1 y.1.kids.length y.2.2] := hk.v 31 (by kernel_rfl)
            clear hk
            go_simp
            refine Calls.mono (hcmp.out _) ?_
            rintro e W3 ⟨rfl, hx⟩
            exact hK _ _ hx (fun d hd => by cases hd; rfl)
          · intro act W2 hk
            have eg : act.tmps[21]?.getD undef = .bool true := hk.v 21 (by kernel_rfl)
            refine Flow.does_intro (wanted_yes rfl rfl eg) (fun Kq hK => ?_)
            clear eg
            have e32 : act.tmps[32]?.getD undef = .int .i64 (cmpT x.1 y.1) := hk.v 32 (by kernel_rfl)
            clear hk
            go_simp
            exact hK _ _ (Ext.refl _) (fun d hd => by cases hd; have h1 := hneg.out; simp [SP.eq] at h1 ⊢; omega)
          · intro act W2 hk
            refine Flow.does_intro rfl (fun Kq hK => ?_)
            have e21 : act.tmps[21]?.getD undef = .bool true := hk.v 21 (by kernel_rfl)
            have e33 : act.tmps[33]?.getD undef = .bool true := hk.v 33 (by kernel_rfl)
            clear hk
            go_simp
            exact hK _ _ (Ext.refl _) (fun d hd => by cases hd; rfl)
        · intro act W2 he
          have hxW2 := Hd.mk ((Ext.drew V0).trans he.ext)
          obtain ⟨us, hA, hF⟩ := he.out [18, 19, 20, 21, 22, 23, 24, 25, 26, 27, 28, 29, 30, 31, 32, 33, 34] (by kernel_rfl)
          simp only [Flow.fillL, List.contains_cons, List.contains_nil, Nat.reduceBEq, Bool.or_false, Bool.false_or, Bool.or_true, Bool.true_or, ↓reduceIte, Nat.reduceAdd, Bool.false_eq_true] at hA
          subst hA
          have f34 : us 34 = .bool true := hF 34 (by simp)
          clear hF he
          rw [f34]
          clear f34
          refine (show wpList _ _ _ [] _ _ from ?_)
          replace hrow' := Hd.mk (hrow'.out.ext hxW2.out)
          replace hcx := Hd.mk (fun q v hv => Ext.cell hxW2.out (hcx.out q v hv))
          replace hcy := Hd.mk (fun q v hv => Ext.cell hxW2.out (hcy.out q v hv))
          replace hgr := Hd.mk (grown_trans hgr.out (grown_ext hxW2.out))
          clear hxW2 hcmp hneg hrow
          generalize W2 = V1 at *
          go_wp2_with fail
          refine FlowG.wp_region_flow_l (G := fun _ u => Blk u g (rowI (((pre ++ P2) ++ y :: x :: (Q ++ (seg.drop (k + 1) ++ post))).set j y) ++ sp) 54) (fun _ _ _ hx h => h.ext hx) (R := fun u v => u.grownBy v (some g)) 15 (fun _ _ h => grown_ext h) (fun h k => grown_trans h k) (fun qq => match qq with
            | 37 => SP.eq (.slice (some ⟨g, 0, none⟩) n cap)
            | 38 => SP.eq (.int .i64 (j : Nat))
            | 39 => SP.eq (.slice (some ⟨g, 0, none⟩) n cap)
            | 40 => SP.eq (.int .i64 (j : Nat))
            | 41 => SP.eq (.int .i64 (j2 : Nat))
            | 42 => SP.eq (.slice (some ⟨g, 0, none⟩) n cap)
            | 43 => SP.eq (.int .i64 (j : Nat))
            | 44 => SP.eq (.int .i64 (j2 : Nat))
            | 45 => SP.eq (.pointer (some ⟨g, j2 * 6, none⟩))
            | 46 => SP.eq (.agg #[.string y.1.name, .string y.1.key, .int .i64 y.1.kind, .int .u64 y.1.num, .string y.1.text, .slice y.2.1 y.1.kids.length y.2.2])
            | 47 => SP.eq (.slice (some ⟨g, 0, none⟩) n cap)
            | 48 => SP.eq (.int .i64 (j : Nat))
            | 49 => SP.eq (.pointer (some ⟨g, j * 6, none⟩))
            | 50 => SP.eq (.agg #[.string x.1.name, .string x.1.key, .int .i64 x.1.kind, .int .u64 x.1.num, .string x.1.text, .slice x.2.1 x.1.kids.length x.2.2])
            | 51 => SP.eq (.pointer (some ⟨g, j * 6, none⟩))
            | 52 => SP.eq (.pointer (some ⟨g, j2 * 6, none⟩))
            | _ => SP.any) 17 (by kernel_rfl) 53 rfl (by kernel_rfl) (of_decide_eq_true (by kernel_rfl)) (by decide) (by kernel_rfl) ?_ ?_ ?_
          · intro q hq u' v1 v2 hR
            split
            all_goals exact fun h => h
          · skip
            refine ⟨?_, ?_, ?_, ?_, ?_, ?_, ?_, ?_, ?_, ?_, ?_, ?_, ?_, ?_, ?_, ?_, ?_, trivial⟩
            · intro act W2 hk
              refine FlowG.does_intro rfl (fun Kq hK => ?_)
              have e0 : act.tmps[0]?.getD undef = .slice (some ⟨g, 0, none⟩) n cap := hk.o 0 (by kernel_rfl)
              clear hk
              go_simp
              exact hK _ _ (Ext.refl _) (fun h => absurd h (by decide)) (fun d hd => by cases hd; rfl)
            · intro act W2 hk
              refine FlowG.does_intro rfl (fun Kq hK => ?_)
              have e9 : act.tmps[9]?.getD undef = .int .i64 (j : Nat) := hk.o 9 (by kernel_rfl)
              clear hk
              go_simp
              exact hK _ _ (Ext.refl _) (fun h => absurd h (by decide)) (fun d hd => by cases hd; rfl)
            · intro act W2 hk
              refine FlowG.does_intro rfl (fun Kq hK => ?_)
              have e0 : act.tmps[0]?.getD undef = .slice (some ⟨g, 0, none⟩) n cap := hk.o 0 (by kernel_rfl)
              clear hk
              go_simp
              exact hK _ _ (Ext.refl _) (fun h => absurd h (by decide)) (fun d hd => by cases hd; rfl)
            · intro act W2 hk
              refine FlowG.does_intro rfl (fun Kq hK => ?_)
              have e9 : act.tmps[9]?.getD undef = .int .i64 (j : Nat) := hk.o 9 (by kernel_rfl)
              clear hk
              go_simp
              exact hK _ _ (Ext.refl _) (fun h => absurd h (by decide)) (fun d hd => by cases hd; rfl)
            · intro act W2 hk
              refine FlowG.does_intro rfl (fun Kq hK => ?_)
              have e40 : act.tmps[40]?.getD undef = .int .i64 (j : Nat) := hk.v 40 (by kernel_rfl)
              clear hk
              go_simp
              exact hK _ _ (Ext.refl _) (fun h => absurd h (by decide)) (fun d hd => by cases hd; have h1 := hj1.out; have h2 := hlb; simp [SP.eq]; first | omega | (rw [IntKind.wrap_i64]; omega) | (unfold wrap64; omega))
            · intro act W2 hk
              refine FlowG.does_intro rfl (fun Kq hK => ?_)
              have e0 : act.tmps[0]?.getD undef = .slice (some ⟨g, 0, none⟩) n cap := hk.o 0 (by kernel_rfl)
              clear hk
              go_simp
              exact hK _ _ (Ext.refl _) (fun h => absurd h (by decide)) (fun d hd => by cases hd; rfl)
            · intro act W2 hk
              refine FlowG.does_intro rfl (fun Kq hK => ?_)
              have e9 : act.tmps[9]?.getD undef = .int .i64 (j : Nat) := hk.o 9 (by kernel_rfl)
              clear hk
              go_simp
              exact hK _ _ (Ext.refl _) (fun h => absurd h (by decide)) (fun d hd => by cases hd; rfl)
            · intro act W2 hk
              refine FlowG.does_intro rfl (fun Kq hK => ?_)
              have e43 : act.tmps[43]?.getD undef = .int .i64 (j : Nat) := hk.v 43 (by kernel_rfl)
              clear hk
              go_simp
              exact hK _ _ (Ext.refl _) (fun h => absurd h (by decide)) (fun d hd => by cases hd; have h1 := hj1.out; have h2 := hlb; simp [SP.eq]; first | omega | (rw [IntKind.wrap_i64]; omega) | (unfold wrap64; omega))
            · intro act W2 hk
              refine FlowG.does_intro rfl (fun Kq hK => ?_)
              have e42 : act.tmps[42]?.getD undef = .slice (some ⟨g, 0, none⟩) n cap := hk.v 42 (by kernel_rfl)
              have e44 : act.tmps[44]?.getD undef = .int .i64 (j2 : Nat) := hk.v 44 (by kernel_rfl)
              clear hk
              go_simp
              exact hK _ _ (Ext.refl _) (fun h => absurd h (by decide)) (fun d hd => by cases hd; rfl)
            · intro act W2 hk
              refine FlowG.does_intro rfl (fun Kq hK => ?_)
              have e45 : act.tmps[45]?.getD undef = .pointer (some ⟨g, j2 * 6, none⟩) := hk.v 45 (by kernel_rfl)
              have g0 := Ext.cell ((Ext.drew V1).trans (hk.early (.inr (by kernel_rfl)))) ((hcy.out) 0 _ rfl)
              rw [Nat.add_zero] at g0
              have g1 := Ext.cell ((Ext.drew V1).trans (hk.early (.inr (by kernel_rfl)))) ((hcy.out) 1 _ rfl)
              have g2 := Ext.cell ((Ext.drew V1).trans (hk.early (.inr (by kernel_rfl)))) ((hcy.out) 2 _ rfl)
              have g3 := Ext.cell ((Ext.drew V1).trans (hk.early (.inr (by kernel_rfl)))) ((hcy.out) 3 _ rfl)
              have g4 := Ext.cell ((Ext.drew V1).trans (hk.early (.inr (by kernel_rfl)))) ((hcy.out) 4 _ rfl)
              have g5 := Ext.cell ((Ext.drew V1).trans (hk.early (.inr (by kernel_rfl)))) ((hcy.out) 5 _ rfl)
              clear hk
              go_simp
              exact hK _ _ (Ext.refl _) (fun h => absurd h (by decide)) (fun d hd => by cases hd; rfl)
            · intro act W2 hk
              refine FlowG.does_intro rfl (fun Kq hK => ?_)
              have e0 : act.tmps[0]?.getD undef = .slice (some ⟨g, 0, none⟩) n cap := hk.o 0 (by kernel_rfl)
              clear hk
              go_simp
              exact hK _ _ (Ext.refl _) (fun h => absurd h (by decide)) (fun d hd => by cases hd; rfl)
            · intro act W2 hk
              refine FlowG.does_intro rfl (fun Kq hK => ?_)
              have e9 : act.tmps[9]?.getD undef = .int .i64 (j : Nat) := hk.o 9 (by kernel_rfl)
              clear hk
              go_simp
              exact hK _ _ (Ext.refl _) (fun h => absurd h (by decide)) (fun d hd => by cases hd; rfl)
            · intro act W2 hk
              refine FlowG.does_intro rfl (fun Kq hK => ?_)
              have e47 : act.tmps[47]?.getD undef = .slice (some ⟨g, 0, none⟩) n cap := hk.v 47 (by kernel_rfl)
              have e48 : act.tmps[48]?.getD undef = .int .i64 (j : Nat) := hk.v 48 (by kernel_rfl)
              clear hk
              go_simp
              exact hK _ _ (Ext.refl _) (fun h => absurd h (by decide)) (fun d hd => by cases hd; rfl)
            · intro act W2 hk
              refine FlowG.does_intro rfl (fun Kq hK => ?_)
              have e49 : act.tmps[49]?.getD undef = .pointer (some ⟨g, j * 6, none⟩) := hk.v 49 (by kernel_rfl)
              have g0 := Ext.cell ((Ext.drew V1).trans (hk.early (.inr (by kernel_rfl)))) ((hcx.out) 0 _ rfl)
              rw [Nat.add_zero] at g0
              have g1 := Ext.cell ((Ext.drew V1).trans (hk.early (.inr (by kernel_rfl)))) ((hcx.out) 1 _ rfl)
              have g2 := Ext.cell ((Ext.drew V1).trans (hk.early (.inr (by kernel_rfl)))) ((hcx.out) 2 _ rfl)
              have g3 := Ext.cell ((Ext.drew V1).trans (hk.early (.inr (by kernel_rfl)))) ((hcx.out) 3 _ rfl)
              have g4 := Ext.cell ((Ext.drew V1).trans (hk.early (.inr (by kernel_rfl)))) ((hcx.out) 4 _ rfl)
              have g5 := Ext.cell ((Ext.drew V1).trans (hk.early (.inr (by kernel_rfl)))) ((hcx.out) 5 _ rfl)
              clear hk
              go_simp
              exact hK _ _ (Ext.refl _) (fun h => absurd h (by decide)) (fun d hd => by cases hd; rfl)
            · intro act W2 hk
              refine FlowG.does_intro rfl (fun Kq hK => ?_)
              have e37 : act.tmps[37]?.getD undef = .slice (some ⟨g, 0, none⟩) n cap := hk.v 37 (by kernel_rfl)
              have e38 : act.tmps[38]?.getD undef = .int .i64 (j : Nat) := hk.v 38 (by kernel_rfl)
              clear hk
              go_simp
              exact hK _ _ (Ext.refl _) (fun h => absurd h (by decide)) (fun d hd => by cases hd; rfl)
            · intro act W2 hk
              refine FlowG.does_intro rfl (fun Kq hK => ?_)
              have e51 : act.tmps[51]?.getD undef = .pointer (some ⟨g, j * 6, none⟩) := hk.v 51 (by kernel_rfl)
              have e46 : act.tmps[46]?.getD undef = .agg #[.string y.1.name, .string y.1.key, .int .i64 y.1.kind, .int .u64 y.1.num, .string y.1.text, .slice y.2.1 y.1.kids.length y.2.2] := hk.v 46 (by kernel_rfl)
              have kW := (hrow'.out).ext ((Ext.drew V1).trans (hk.early (.inl rfl)))
              obtain ⟨v0, v1, v2, v3, v4, v5, z0, z1, z2, z3, z4, z5⟩ := rowI_old (i := j) kW (by rw [hln.out]; omega)
              have hfr := kW.free
              have hst := Hd.mk (rowI_store (i := j) kW (by rw [hln.out]; omega) y)
              clear hk kW
              go_simp
              exact hK undef _ (grown_upd hst.out.2) (fun _ => hst.out.1) (fun d hd => by cases hd)
            · intro act W2 hk
              refine FlowG.does_intro rfl (fun Kq hK => ?_)
              have e39 : act.tmps[39]?.getD undef = .slice (some ⟨g, 0, none⟩) n cap := hk.v 39 (by kernel_rfl)
              have e41 : act.tmps[41]?.getD undef = .int .i64 (j2 : Nat) := hk.v 41 (by kernel_rfl)
              clear hk
              go_simp
              exact hK _ _ (Ext.refl _) (fun h => absurd h (by decide)) (fun d hd => by cases hd; rfl)
          · intro act V2 he
            have hgV := Hd.mk (grown_trans (grown_ext (Ext.drew V1)) he.ext)
            obtain ⟨aP, hG1, _⟩ := he.post
            have kV := Hd.mk hG1
            obtain ⟨us, hA, hF⟩ := he.out [37, 38, 39, 40, 41, 42, 43, 44, 45, 46, 47, 48, 49, 50, 51, 52] (by kernel_rfl)
            simp only [Flow.fillL, List.contains_cons, List.contains_nil, Nat.reduceBEq, Bool.or_false, Bool.false_or, Bool.or_true, Bool.true_or, ↓reduceIte, Nat.reduceAdd, Bool.false_eq_true] at hA
            subst hA
            have f52 : us 52 = .pointer (some ⟨g, j2 * 6, none⟩) := hF 52 (by simp)
            have f50 : us 50 = .agg #[.string x.1.name, .string x.1.key, .int .i64 x.1.kind, .int .u64 x.1.num, .string x.1.text, .slice x.2.1 x.1.kids.length x.2.2] := hF 50 (by simp)
            clear hF he hG1
            rw [f52]
            clear f52
            rw [f50]
            clear f50
            refine (show wpList _ _ _ (⟨none, .store 54 (.tmp 52) (.tmp 50), _, _, _, none⟩ :: []) _ _ from ?_)
            have hi2 : j2 < (((pre ++ P2) ++ y :: x :: (Q ++ (seg.drop (k + 1) ++ post))).set j y).length := by rw [List.length_set, hln.out]; omega
            obtain ⟨v0, v1, v2, v3, v4, v5, z0, z1, z2, z3, z4, z5⟩ := rowI_old kV.out hi2
            have hfr := kV.out.free
            have hst := rowI_store kV.out hi2 x
            rw [show (((pre ++ P2) ++ y :: x :: (Q ++ (seg.drop (k + 1) ++ post))).set j y).set j2 x = (pre ++ P2) ++ x :: y :: (Q ++ (seg.drop (k + 1) ++ post)) by rw [hj1.out, ← hpl.out]; exact swap_list _ _ _ _] at hst
            replace hst := Hd.mk hst
            clear hi2
            go_wp2_with fail
            go_roundg (P2.length + 1)
            case measure => have := hq2.out; simp at this; omega
            case rel => exact ⟨P2, y :: Q, j2, ⟨hjd.out.symm⟩, ⟨by rw [hPQ.out]; simp⟩, ⟨rfl⟩, by have h1 := hj1.out; have h2 := hlb; refine congrArg (Value.int .i64) ?_; first | omega | (unfold wrap64; omega), ⟨fun e he => by rcases List.mem_cons.1 he with rfl | he; exact hle; exact hab.out e he⟩, ⟨by simpa using hst.out.1⟩, ⟨grown_trans (grown_trans hgr.out hgV.out) (grown_upd hst.out.2)⟩⟩
      | false =>
        have hneg := Hd.mk (cmp_lt hle)
        have hout : Hd (isortG ltI (seg.take (k + 1)) = (P2 ++ [y]) ++ x :: Q) := ⟨by rw [htk.out, hPQ.out, insG_at hab.out (fun P' z h => by have := List.append_inj_right' h rfl; simp at this; rw [← this]; exact hle)]⟩
        go_wp2_with fail
        refine Flow.wp_region_flow_l (fun qq => match qq with
          | 18 => SP.eq (.int .i64 (j : Nat))
          | 19 => SP.eq (.int .i64 (a : Nat))
          | 20 => SP.eq (.bool true)
          | 21 => SP.eq (.bool true)
          | 22 => SP.eq (.func (.func 116) #[] #[])
          | 23 => SP.eq (.slice (some ⟨g, 0, none⟩) n cap)
          | 24 => SP.eq (.int .i64 (j : Nat))
          | 25 => SP.eq (.pointer (some ⟨g, j * 6, none⟩))
          | 26 => SP.eq (.agg #[.string x.1.name, .string x.1.key, .int .i64 x.1.kind, .int .u64 x.1.num, .string x.1.text, .slice x.2.1 x.1.kids.length x.2.2])
          | 27 => SP.eq (.slice (some ⟨g, 0, none⟩) n cap)
          | 28 => SP.eq (.int .i64 (j : Nat))
          | 29 => SP.eq (.int .i64 (j2 : Nat))
          | 30 => SP.eq (.pointer (some ⟨g, j2 * 6, none⟩))
          | 31 => SP.eq (.agg #[.string y.1.name, .string y.1.key, .int .i64 y.1.kind, .int .u64 y.1.num, .string y.1.text, .slice y.2.1 y.1.kids.length y.2.2])
          | 32 => SP.eq (.int .i64 (cmpT x.1 y.1))
          | 33 => SP.eq (.bool false)
          | 34 => SP.eq (.bool false)
          | _ => SP.any) 17 (by kernel_rfl) 53 rfl (by kernel_rfl) ?_ ?_
        · skip
          refine ⟨?_, ?_, ?_, ?_, ?_, ?_, ?_, ?_, ?_, ?_, ?_, ?_, ?_, ?_, ?_, ?_, ?_, trivial⟩
          · intro act W2 hk
            refine Flow.does_intro rfl (fun Kq hK => ?_)
            have e9 : act.tmps[9]?.getD undef = .int .i64 (j : Nat) := hk.o 9 (by kernel_rfl)
            clear hk
            go_simp
            exact hK _ _ (Ext.refl _) (fun d hd => by cases hd; rfl)
          · intro act W2 hk
            refine Flow.does_intro rfl (fun Kq hK => ?_)
            have e1 : act.tmps[1]?.getD undef = .int .i64 (a : Nat) := hk.o 1 (by kernel_rfl)
            clear hk
            go_simp
            exact hK _ _ (Ext.refl _) (fun d hd => by cases hd; rfl)
          · intro act W2 hk
            refine Flow.does_intro rfl (fun Kq hK => ?_)
            have e18 : act.tmps[18]?.getD undef = .int .i64 (j : Nat) := hk.v 18 (by kernel_rfl)
            have e19 : act.tmps[19]?.getD undef = .int .i64 (a : Nat) := hk.v 19 (by kernel_rfl)
            clear hk
            go_simp
            exact hK _ _ (Ext.refl _) (fun d hd => by cases hd; have h1 := hjd.out; have h2 := hj1.out; simp [SP.eq]; omega)
          · intro act W2 hk
            refine Flow.does_intro rfl (fun Kq hK => ?_)
            have e20 : act.tmps[20]?.getD undef = .bool true := hk.v 20 (by kernel_rfl)
            clear hk
            go_simp
            exact hK _ _ (Ext.refl _) (fun d hd => by cases hd; rfl)
          · intro act W2 hk
            have eg : act.tmps[21]?.getD undef = .bool true := hk.v 21 (by kernel_rfl)
            refine Flow.does_intro (wanted_yes rfl rfl eg) (fun Kq hK => ?_)
            clear eg
            have e3 : act.tmps[3]?.getD undef = .func (.func 116) #[] #[] := hk.o 3 (by kernel_rfl)
            clear hk
            go_simp
            exact hK _ _ (Ext.refl _) (fun d hd => by cases hd; rfl)
          · intro act W2 hk
            have eg : act.tmps[21]?.getD undef = .bool true := hk.v 21 (by kernel_rfl)
            refine Flow.does_intro (wanted_yes rfl rfl eg) (fun Kq hK => ?_)
            clear eg
            have e0 : act.tmps[0]?.getD undef = .slice (some ⟨g, 0, none⟩) n cap := hk.o 0 (by kernel_rfl)
            clear hk
            go_simp
            exact hK _ _ (Ext.refl _) (fun d hd => by cases hd; rfl)
          · intro act W2 hk
            have eg : act.tmps[21]?.getD undef = .bool true := hk.v 21 (by kernel_rfl)
            refine Flow.does_intro (wanted_yes rfl rfl eg) (fun Kq hK => ?_)
            clear eg
            have e9 : act.tmps[9]?.getD undef = .int .i64 (j : Nat) := hk.o 9 (by kernel_rfl)
            clear hk
            go_simp
            exact hK _ _ (Ext.refl _) (fun d hd => by cases hd; rfl)
          · intro act W2 hk
            have eg : act.tmps[21]?.getD undef = .bool true := hk.v 21 (by kernel_rfl)
            refine Flow.does_intro (wanted_yes rfl rfl eg) (fun Kq hK => ?_)
            clear eg
            have e23 : act.tmps[23]?.getD undef = .slice (some ⟨g, 0, none⟩) n cap := hk.v 23 (by kernel_rfl)
            have e24 : act.tmps[24]?.getD undef = .int .i64 (j : Nat) := hk.v 24 (by kernel_rfl)
            clear hk
            go_simp
            exact hK _ _ (Ext.refl _) (fun d hd => by cases hd; rfl)
          · intro act W2 hk
            have eg : act.tmps[21]?.getD undef = .bool true := hk.v 21 (by kernel_rfl)
            refine Flow.does_intro (wanted_yes rfl rfl eg) (fun Kq hK => ?_)
            clear eg
            have e25 : act.tmps[25]?.getD undef = .pointer (some ⟨g, j * 6, none⟩) := hk.v 25 (by kernel_rfl)
            have g0 := Ext.cell ((Ext.drew V0).trans hk.ext) ((hcx.out) 0 _ rfl)
            rw [Nat.add_zero] at g0
            have g1 := Ext.cell ((Ext.drew V0).trans hk.ext) ((hcx.out) 1 _ rfl)
            have g2 := Ext.cell ((Ext.drew V0).trans hk.ext) ((hcx.out) 2 _ rfl)
            have g3 := Ext.cell ((Ext.drew V0).trans hk.ext) ((hcx.out) 3 _ rfl)
            have g4 := Ext.cell ((Ext.drew V0).trans hk.ext) ((hcx.out) 4 _ rfl)
            have g5 := Ext.cell ((Ext.drew V0).trans hk.ext) ((hcx.out) 5 _ rfl)
            clear hk
            go_simp
            exact hK _ _ (Ext.refl _) (fun d hd => by cases hd; rfl)
          · intro act W2 hk
            have eg : act.tmps[21]?.getD undef = .bool true := hk.v 21 (by kernel_rfl)
            refine Flow.does_intro (wanted_yes rfl rfl eg) (fun Kq hK => ?_)
            clear eg
            have e0 : act.tmps[0]?.getD undef = .slice (some ⟨g, 0, none⟩) n cap := hk.o 0 (by kernel_rfl)
            clear hk
            go_simp
            exact hK _ _ (Ext.refl _) (fun d hd => by cases hd; rfl)
          · intro act W2 hk
            have eg : act.tmps[21]?.getD undef = .bool true := hk.v 21 (by kernel_rfl)
            refine Flow.does_intro (wanted_yes rfl rfl eg) (fun Kq hK => ?_)
            clear eg
            have e9 : act.tmps[9]?.getD undef = .int .i64 (j : Nat) := hk.o 9 (by kernel_rfl)
            clear hk
            go_simp
            exact hK _ _ (Ext.refl _) (fun d hd => by cases hd; rfl)
          · intro act W2 hk
            have eg : act.tmps[21]?.getD undef = .bool true := hk.v 21 (by kernel_rfl)
            refine Flow.does_intro (wanted_yes rfl rfl eg) (fun Kq hK => ?_)
            clear eg
            have e28 : act.tmps[28]?.getD undef = .int .i64 (j : Nat) := hk.v 28 (by kernel_rfl)
            clear hk
            go_simp
            exact hK _ _ (Ext.refl _) (fun d hd => by cases hd; have h1 := hj1.out; have h2 := hlb; simp [SP.eq]; first | omega | (rw [IntKind.wrap_i64]; omega) | (unfold wrap64; omega))
          · intro act W2 hk
            have eg : act.tmps[21]?.getD undef = .bool true := hk.v 21 (by kernel_rfl)
            refine Flow.does_intro (wanted_yes rfl rfl eg) (fun Kq hK => ?_)
            clear eg
            have e27 : act.tmps[27]?.getD undef = .slice (some ⟨g, 0, none⟩) n cap := hk.v 27 (by kernel_rfl)
            have e29 : act.tmps[29]?.getD undef = .int .i64 (j2 : Nat) := hk.v 29 (by kernel_rfl)
            clear hk
            go_simp
            exact hK _ _ (Ext.refl _) (fun d hd => by cases hd; rfl)
          · intro act W2 hk
            have eg : act.tmps[21]?.getD undef = .bool true := hk.v 21 (by kernel_rfl)
            refine Flow.does_intro (wanted_yes rfl rfl eg) (fun Kq hK => ?_)
            clear eg
            have e30 : act.tmps[30]?.getD undef = .pointer (some ⟨g, j2 * 6, none⟩) := hk.v 30 (by kernel_rfl)
            have g0 := Ext.cell ((Ext.drew V0).trans hk.ext) ((hcy.out) 0 _ rfl)
            rw [Nat.add_zero] at g0
            have g1 := Ext.cell ((Ext.drew V0).trans hk.ext) ((hcy.out) 1 _ rfl)
            have g2 := Ext.cell ((Ext.drew V0).trans hk.ext) ((hcy.out) 2 _ rfl)
            have g3 := Ext.cell ((Ext.drew V0).trans hk.ext) ((hcy.out) 3 _ rfl)
            have g4 := Ext.cell ((Ext.drew V0).trans hk.ext) ((hcy.out) 4 _ rfl)
            have g5 := Ext.cell ((Ext.drew V0).trans hk.ext) ((hcy.out) 5 _ rfl)
            clear hk
            go_simp
            exact hK _ _ (Ext.refl _) (fun d hd => by cases hd; rfl)
          · intro act W2 hk
            have eg : act.tmps[21]?.getD undef = .bool true := hk.v 21 (by kernel_rfl)
            refine Flow.does_intro (wanted_yes rfl rfl eg) (fun Kq hK => ?_)
            clear eg
            have e22 : act.tmps[22]?.getD undef = .func (.func 116) #[] #[] := hk.v 22 (by kernel_rfl)
            have e26 : act.tmps[26]?.getD undef = .agg #[.string x.1.name, .string x.1.key, .int .i64 x.1.kind, .int .u64 x.1.num, .string x.1.text, .slice x.2.1 x.1.kids.length x.2.2] := hk.v 26 (by kernel_rfl)
            have e31 : act.tmps[31]?.getD undef = .agg #[.string y.1.name, .string y.1.key, .int .i64 y.1.kind, .int .u64 y.1.num, .string y.1.text, .slice y.2.1 y.1.kids.length y.2.2] := hk.v 31 (by kernel_rfl)
            clear hk
            go_simp
            refine Calls.mono (hcmp.out _) ?_
            rintro e W3 ⟨rfl, hx⟩
            exact hK _ _ hx (fun d hd => by cases hd; rfl)
          · intro act W2 hk
            have eg : act.tmps[21]?.getD undef = .bool true := hk.v 21 (by kernel_rfl)
            refine Flow.does_intro (wanted_yes rfl rfl eg) (fun Kq hK => ?_)
            clear eg
            have e32 : act.tmps[32]?.getD undef = .int .i64 (cmpT x.1 y.1) := hk.v 32 (by kernel_rfl)
            clear hk
            go_simp
            exact hK _ _ (Ext.refl _) (fun d hd => by cases hd; have h1 := hneg.out; simp [SP.eq] at h1 ⊢; omega)
          · intro act W2 hk
            refine Flow.does_intro rfl (fun Kq hK => ?_)
            have e21 : act.tmps[21]?.getD undef = .bool true := hk.v 21 (by kernel_rfl)
            have e33 : act.tmps[33]?.getD undef = .bool false := hk.v 33 (by kernel_rfl)
            clear hk
            go_simp
            exact hK _ _ (Ext.refl _) (fun d hd => by cases hd; rfl)
        · intro act W2 he
          have hxW2 := Hd.mk ((Ext.drew V0).trans he.ext)
          obtain ⟨us, hA, hF⟩ := he.out [18, 19, 20, 21, 22, 23, 24, 25, 26, 27, 28, 29, 30, 31, 32, 33, 34] (by kernel_rfl)
          simp only [Flow.fillL, List.contains_cons, List.contains_nil, Nat.reduceBEq, Bool.or_false, Bool.false_or, Bool.or_true, Bool.true_or, ↓reduceIte, Nat.reduceAdd, Bool.false_eq_true] at hA
          subst hA
          have f34 : us 34 = .bool false := hF 34 (by simp)
          clear hF he
          rw [f34]
          clear f34
          refine (show wpList _ _ _ [] _ _ from ?_)
          have hrow2 := Hd.mk (hrow.out.ext hxW2.out)
          have hgr2 := Hd.mk (grown_trans hgr.out (grown_ext hxW2.out))
          clear hrow hgr hxW2
          go_wp2_with fail
          go_roundg (seg.length + 2 - (k + 1))
          case measure => have := hq.out; omega
          case rel => exact ⟨k + 1, i0 + 1, ⟨by rw [hi0.out]; omega⟩, by omega, by omega, ⟨rfl⟩, by go_num, ⟨by rw [hout.out]; simpa using hrow2.out⟩, hgr2⟩
  · have hge : ¬ (i0 : Int) < (b : Int) := by have := hbn.out; have := hi0.out; omega
    have ht : seg.take k = seg := List.take_of_length_le (by omega)
    have hd : seg.drop k = [] := List.drop_of_length_le (by omega)
    rw [ht, hd, List.nil_append] at hrow
    clear ht hd
    go_wp2_with fail
    go_end0
    exact ⟨rfl, by simpa using hrow.out, hgr.out⟩
end Go.Proofs.Ytgkgedjmnbjalaa
set_option linter.unusedSimpArgs false
namespace Go.Proofs.Ytgkgedjmnbjalaa
open Go.RowKit Go.Sort
abbrev keyI (x : It) : Step := stepT x.1
def SameF (l m : List It) : Prop := ∀ s : Step, l.filter (fun x => decide (keyI x = s)) = m.filter (fun x => decide (keyI x = s))
def SrtLe (l : List It) : Prop := l.Pairwise (fun x y => ltI y x = false)
theorem SameF.refl (l : List It) : SameF l l := fun _ => rfl
theorem SameF.trans {a b c : List It} (h : SameF a b) (k : SameF b c) : SameF a c := fun s => (h s).trans (k s)
theorem SameF.symm {a b : List It} (h : SameF a b) : SameF b a := fun s => (h s).symm
theorem SameF.app {a b c d : List It} (h : SameF a b) (k : SameF c d) : SameF (a ++ c) (b ++ d) := fun s => by rw [List.filter_append, List.filter_append, h s, k s]
theorem SameF.seg {a b : List It} (h : SameF a b) (p q : List It) : SameF (p ++ a ++ q) (p ++ b ++ q) := ((SameF.refl p).app h).app (SameF.refl q)
theorem ltI_irr (x : It) : ltI x x = false := lessT_irr x.1
theorem ltI_asymm {x y : It} (h : ltI x y = true) : ltI y x = false := lessT_asymm h
theorem ltI_trans {x y z : It} (h : ltI x y = true) (k : ltI y z = true) : ltI x z = true := lessT_trans h k
theorem ltI_key {x y : It} (h : ltI x y = false) (k : ltI y x = false) : keyI x = keyI y := step_of_less h k
theorem ltI_ne {x y : It} (h : ltI x y = true) : keyI x ≠ keyI y := less_ne h
theorem ltI_cong {x y z : It} (h : keyI x = keyI y) : ltI x z = ltI y z ∧ ltI z x = ltI z y := lessT_step h
theorem le_trans' {x y z : It} (h : ltI y x = false) (k : ltI z y = false) : ltI z x = false := by
  cases hzx : ltI z x with
  | false => rfl
  | true =>
    cases hxy : ltI x y with
    | true => rw [ltI_trans hzx hxy] at k; cases k
    | false => rw [← (ltI_cong (ltI_key hxy h)).2, hzx] at k; cases k
theorem SameF.mem {a b : List It} (h : SameF a b) {x : It} (hx : x ∈ a) : x ∈ b := by
  have h1 : x ∈ a.filter (fun y => decide (keyI y = keyI x)) := List.mem_filter.2 ⟨hx, by simp⟩
  rw [h (keyI x)] at h1
  exact (List.mem_filter.1 h1).1
theorem srt_unique : ∀ {a b : List It}, SrtLe a → SrtLe b → SameF a b → a = b
  | [], b, _, _, h => by
    cases b with
    | nil => rfl
    | cons y b => have := h.symm.mem (show y ∈ y :: b by simp); cases this
  | x :: a, b, ha, hb, h => by
    cases b with
    | nil => have := h.mem (show x ∈ x :: a by simp); cases this
    | cons y b =>
      obtain ⟨a1, a2⟩ := List.pairwise_cons.1 ha
      obtain ⟨b1, b2⟩ := List.pairwise_cons.1 hb
      have hle1 : ltI y x = false := by
        rcases List.mem_cons.1 (h.symm.mem (show y ∈ y :: b by simp)) with e | e
        · rw [e]; exact ltI_irr x
        · exact a1 y e
      have hle2 : ltI x y = false := by
        rcases List.mem_cons.1 (h.mem (show x ∈ x :: a by simp)) with e | e
        · rw [e]; exact ltI_irr y
        · exact b1 x e
      have hk := ltI_key hle2 hle1
      have h1 := h (keyI x)
      simp only [List.filter_cons, decide_true, if_true, hk] at h1
      injection h1 with hxy hrest
      subst hxy
      congr 1
      refine srt_unique a2 b2 (fun s => ?_)
      have h2 := h s
      simp only [List.filter_cons] at h2
      split at h2
      · injection h2
      · exact h2
theorem insG_srt {x : It} {l : List It} (h : SrtLe l) : SrtLe (insG ltI x l) ∧ SameF (l ++ [x]) (insG ltI x l) := by
  have key : ∀ r : List It, SrtLe r.reverse → ∃ suf pre, r = suf ++ pre ∧ (∀ e ∈ suf, ltI x e = true) ∧ (∀ y r', pre = y :: r' → ltI x y = false) := by
    intro r
    induction r with
    | nil => intro _; exact ⟨[], [], rfl, by simp, by simp⟩
    | cons y r ih =>
      intro hr
      rw [List.reverse_cons] at hr
      cases hxy : ltI x y with
      | false => exact ⟨[], y :: r, rfl, by simp, fun z r' e => by cases e; exact hxy⟩
      | true =>
        obtain ⟨suf, pre, e, h1, h2⟩ := ih (List.pairwise_append.1 hr).1
        refine ⟨y :: suf, pre, by rw [e]; rfl, fun z hz => ?_, h2⟩
        rcases List.mem_cons.1 hz with rfl | hz
        · exact hxy
        · exact h1 z hz
  obtain ⟨suf, pre, e, h1, h2⟩ := key l.reverse (by rw [List.reverse_reverse]; exact h)
  have hl : l = pre.reverse ++ suf.reverse := by rw [← List.reverse_append, ← e, List.reverse_reverse]
  have hins : insG ltI x l = pre.reverse ++ x :: suf.reverse := by
    rw [hl, insG_at (fun z hz => h1 z (List.mem_reverse.1 hz)) (fun P' y hP => h2 y P'.reverse (by have := congrArg List.reverse hP; simpa using this))]
  rw [hl] at h
  rw [hins, hl]
  obtain ⟨s1, s2, s3⟩ := List.pairwise_append.1 h
  refine ⟨List.pairwise_append.2 ⟨s1, List.pairwise_cons.2 ⟨fun z hz => ltI_asymm (h1 z (List.mem_reverse.1 hz)), s2⟩, fun y hy z hz => ?_⟩, fun s => ?_⟩
  · rcases List.mem_cons.1 hz with rfl | hz
    · -- y in pre, against x: the last of pre is not greater
      cases pre with
      | nil => simp at hy
      | cons p r' =>
        have h3 := h2 p r' rfl
        rw [List.reverse_cons] at hy s1
        rcases List.mem_append.1 hy with hy | hy
        · exact le_trans' ((List.pairwise_append.1 s1).2.2 y hy p (by simp)) h3
        · simp at hy; subst hy; exact h3
    · exact s3 y hy z hz
  · rw [List.append_assoc, List.filter_append, List.filter_append, List.filter_append, List.filter_cons]
    by_cases hk : keyI x = s
    · have hnil : suf.reverse.filter (fun z => decide (keyI z = s)) = [] := List.filter_eq_nil_iff.2 fun z hz => by
        have := ltI_ne (h1 z (List.mem_reverse.1 hz))
        simp only [decide_eq_true_eq]
        intro e
        exact this (hk.trans e.symm)
      rw [hnil, if_pos (by simp [hk]), List.filter_cons, if_pos (by simp [hk]), List.filter_nil, List.nil_append]
      exact congrArg (fun z => _ ++ x :: z) hnil.symm
    · rw [if_neg (by simp [hk]), List.filter_cons, if_neg (by simp [hk]), List.filter_nil, List.append_nil]
theorem isortG_srt : ∀ l : List It, SrtLe (isortG ltI l) ∧ SameF l (isortG ltI l) := by
  have hh : ∀ (l acc pre : List It), SrtLe acc → SameF pre acc → SrtLe (l.foldl (fun acc x => insG ltI x acc) acc) ∧ SameF (pre ++ l) (l.foldl (fun acc x => insG ltI x acc) acc) := by
    intro l
    induction l with
    | nil => intro acc pre h1 h2; rw [List.append_nil]; exact ⟨h1, h2⟩
    | cons x l ih =>
      intro acc pre h1 h2
      obtain ⟨g1, g2⟩ := insG_srt (x := x) h1
      have := ih (insG ltI x acc) (pre ++ [x]) g1 ((h2.app (SameF.refl [x])).trans g2)
      rw [List.append_assoc] at this
      exact this
  intro l
  exact hh l [] [] List.Pairwise.nil (SameF.refl [])
theorem isort_of {l m : List It} (h1 : SrtLe m) (h2 : SameF l m) : m = isortG ltI l := srt_unique h1 (isortG_srt l).1 (h2.symm.trans (isortG_srt l).2)
def blkI (l : List It) (x y : Nat) : List It := (l.drop x).take y
theorem blk_before {pre s s' post : List It} {x y : Nat} (h : x + y ≤ pre.length) : blkI (pre ++ s ++ post) x y = blkI (pre ++ s' ++ post) x y := by
  unfold blkI
  rw [List.append_assoc, List.append_assoc, List.drop_append_of_le_length (by omega), List.drop_append_of_le_length (by omega), List.take_append_of_le_length (by rw [List.length_drop]; omega), List.take_append_of_le_length (by rw [List.length_drop]; omega)]
theorem blk_behind {pre s s' post : List It} {x y : Nat} (hs : s.length = s'.length) (h : pre.length + s.length ≤ x) : blkI (pre ++ s ++ post) x y = blkI (pre ++ s' ++ post) x y := by
  unfold blkI
  have h1 : (pre ++ s).length ≤ x := by rw [List.length_append]; exact h
  have h2 : (pre ++ s').length ≤ x := by rw [List.length_append, ← hs]; exact h
  have e1 : (pre ++ s ++ post).drop x = post.drop (x - (pre ++ s).length) := by rw [List.drop_append (l₁ := pre ++ s), List.drop_of_length_le h1, List.nil_append]
  have e2 : (pre ++ s' ++ post).drop x = post.drop (x - (pre ++ s').length) := by rw [List.drop_append (l₁ := pre ++ s'), List.drop_of_length_le h2, List.nil_append]
  rw [e1, e2, List.length_append, List.length_append, hs]
theorem blk_it {pre s post : List It} {x y : Nat} (hx : x = pre.length) (hy : y = s.length) : blkI (pre ++ s ++ post) x y = s := by
  unfold blkI
  subst hx hy
  rw [List.append_assoc, List.drop_left, List.take_left]
theorem blk_split (l : List It) (x y : Nat) : l = l.take x ++ blkI l x y ++ l.drop (x + y) := by
  unfold blkI
  rw [← List.drop_drop, List.append_assoc, List.take_append_drop, List.take_append_drop]
theorem blk_len (l : List It) (x y : Nat) : (blkI l x y).length = min y (l.length - x) := by unfold blkI; rw [List.length_take, List.length_drop]
theorem blk_two (l : List It) (x y : Nat) : blkI l x (y + y) = blkI l x y ++ blkI l (x + y) y := by
  unfold blkI
  rw [← List.drop_drop, List.take_add]
end Go.Proofs.Ytgkgedjmnbjalaa
set_option linter.unusedSimpArgs false
namespace Go.Proofs.Ytgkgedjmnbjalaa
open Go.RowKit Go.Sort
theorem tree_set (t x : T) (way : List Step) (S Sx S' : Nat → Prop) (w : World) (c cx : List Value) (A : Option Addr) (ac : Nat) (h : RT S w t c) (hx : RT Sx w x cx) (hw : WRow S' w A way ac) (hri : rightT t = true) (hsz : t.size + x.size ≤ 1048576) :
    Calls Try.prog 70 #[.agg c.toArray, .slice A way.length ac, .agg cx.toArray] w (Ret (ChgPost (setR t way x) w)) := by
  rcases List.eq_nil_or_concat way with rfl | ⟨init, s, rfl⟩
  · exact tree_set_nil t x S Sx w c cx A ac h hx
  · rw [List.concat_eq_append] at hw ⊢
    by_cases hs : s = stepT x
    · subst hs
      exact tree_set_eq t x init S Sx S' w c cx A ac h hx hw hri hsz
    · exact tree_set_ne t x init s S Sx S' w c cx A ac h hx hw hs
theorem cutR_none (t : T) : cutR t [] = (zeroT, 30) := rfl
theorem cutR_snoc (t : T) (init : List Step) (s : Step) : cutR t (init ++ [s]) = match getT t (init ++ [s]) with | none => (zeroT, (30 : Int)) | some _ => (cutT t (init ++ [s]), 0) := by
  unfold cutR
  rw [if_neg (by simp)]
  rfl
def delF (i j : Nat) : Option Nat := if j < i then some j else some (j + 1)
theorem delF_inj (i j j' : Nat) (h : delF i j = delF i j') : j = j' := by
  unfold delF at h
  split at h <;> split at h <;> simp at h <;> omega
theorem delF_get {α : Type} {l : List α} {y : α} {i j : Nat} (h : (l.eraseIdx i)[j]? = some y) : ∃ q, delF i j = some q ∧ l[q]? = some y := by
  unfold delF
  rw [List.getElem?_eraseIdx] at h
  split at h
  · rename_i h1; exact ⟨j, by rw [if_pos h1], h⟩
  · rename_i h1; exact ⟨j + 1, by rw [if_neg h1], h⟩
set_option maxRecDepth 100000 in
set_option maxHeartbeats 4000000 in
theorem tree_cut_nil (t : T) (S : Nat → Prop) (w : World) (c : List Value) (A : Option Addr) (ac : Nat) (h : RT S w t c) :
    Calls Try.prog 72 #[.agg c.toArray, .slice A 0 ac] w (Ret (ChgPost (cutR t []) w)) := by
  obtain ⟨K, kc, rfl, _⟩ := h.row
  have kr := Hd.mk h
  clear h
  rw [cutR_none]
  simp only [cT] at kr ⊢
  go_enter Try.func72, Try.ntmps72
  go_wp2_with (with_reducible refine stop_at (.load 54 (.tmp 2)) ?_)
  refine Stop.mk ?_
  have kx := Hd.mk ((Ext.alloc w (.cells #[.string t.name, .string t.key, .int .i64 t.kind, .int .u64 t.num, .string t.text, .slice K t.kids.length kc] 54)).trans (Ext.alloc _ (.cells #[.string ⟨#[]⟩, .string ⟨#[]⟩, .int .i64 0, .int .u64 0, .string ⟨#[]⟩, .slice none 0 0] 54)))
  have kT := Hd.mk ((Blk.new w #[.string t.name, .string t.key, .int .i64 t.kind, .int .u64 t.num, .string t.text, .slice K t.kids.length kc] 54).alloc (.cells #[.string ⟨#[]⟩, .string ⟨#[]⟩, .int .i64 0, .int .u64 0, .string ⟨#[]⟩, .slice none 0 0] 54))
  have kZ := Hd.mk (Blk.new2 w (.cells #[.string t.name, .string t.key, .int .i64 t.kind, .int .u64 t.num, .string t.text, .slice K t.kids.length kc] 54) #[.string ⟨#[]⟩, .string ⟨#[]⟩, .int .i64 0, .int .u64 0, .string ⟨#[]⟩, .slice none 0 0] 54)
  generalize (w.alloc _).alloc _ = W at *
  generalize hp : w.heap.size = p at *
  replace hp := Hd.mk hp
  have gT := kT.out.cell
  go_wp2_with fail
  have kZ0 := kZ
  refine Calls.mono (own_clone _ t S W _ (Nat.le_refl _) (kr.out.ext kx.out)) ?_
  rintro e w3 ⟨_, rfl, c1, rfl, hr1, hx⟩
  obtain ⟨K1, kc1, _, _, rfl, _⟩ := hr1.row
  replace kx := Hd.mk (kx.out.trans hx)
  replace kZ := Hd.mk (kZ.out.ext hx)
  replace kT := Hd.mk (kT.out.ext hx)
  have hB := Hd.mk (show p + 1 < W.heap.size from kZ0.out.lt)
  have hr1 := Hd.mk hr1
  have hlohi := Hd.mk hx.size
  clear hx gT
  simp only [cT] at hr1 ⊢
  have gT := kT.out.cell
  have fT := kT.out.free
  go_wp2_with (with_reducible refine stop_at (.call { callee := .builtin .len, args := #[.tmp 11], argTypes := #[59] }) ?_)
  refine Stop.mk ?_
  generalize hlo : W.heap.size = lo at *
  generalize hhi : w3.heap.size = hi at *
  replace hlo := Hd.mk hlo
  replace hhi := Hd.mk hhi
  have hu := ((((((Upd.setCell w3 ⟨p, 0, none⟩ (.string t.name)).trans (Upd.setCell _ ⟨p, 1, none⟩ (.string t.key))).trans (Upd.setCell _ ⟨p, 2, none⟩ (.int .i64 t.kind))).trans (Upd.setCell _ ⟨p, 3, none⟩ (.int .u64 t.num))).trans (Upd.setCell _ ⟨p, 4, none⟩ (.string t.text))).trans (Upd.setCell _ ⟨p, 5, none⟩ (.slice K1 t.kids.length kc1)))
  have kTn : Blk ((((((w3.setCell ⟨p, 0, none⟩ (.string t.name)).setCell ⟨p, 1, none⟩ (.string t.key)).setCell ⟨p, 2, none⟩ (.int .i64 t.kind)).setCell ⟨p, 3, none⟩ (.int .u64 t.num)).setCell ⟨p, 4, none⟩ (.string t.text)).setCell ⟨p, 5, none⟩ (.slice K1 t.kids.length kc1)) (p) [.string t.name, .string t.key, .int .i64 t.kind, .int .u64 t.num, .string t.text, .slice K1 t.kids.length kc1] 54 := ((((((kT.out.setCell 0 (.string t.name)).setCell 1 (.string t.key)).setCell 2 (.int .i64 t.kind)).setCell 3 (.int .u64 t.num)).setCell 4 (.string t.text)).setCell 5 (.slice K1 t.kids.length kc1))
  generalize ((((((w3.setCell ⟨p, 0, none⟩ (.string t.name)).setCell ⟨p, 1, none⟩ (.string t.key)).setCell ⟨p, 2, none⟩ (.int .i64 t.kind)).setCell ⟨p, 3, none⟩ (.int .u64 t.num)).setCell ⟨p, 4, none⟩ (.string t.text)).setCell ⟨p, 5, none⟩ (.slice K1 t.kids.length kc1)) = W4 at *
  replace kT := Hd.mk kTn
  clear kTn
  replace kZ := Hd.mk (hu.blk (by show p + 1 ≠ p; omega) kZ.out)
  replace hr1 := Hd.mk (hr1.out.keep fun b hb => hu.block b (by have := hB.out; have := hb.1; show b ≠ p; omega))
  replace kx := Hd.mk (show Ext w W4 from Below.trans kx.out (hu.below (by rw [hp.out]; exact Nat.le_refl _)))
  replace hu := Hd.mk hu
  have hsz4 := Hd.mk (show W4.heap.size = hi by rw [hu.out.size, hhi.out])
  clear hu gT fT
  clear kr hr1
  have gZ := kZ.out.cell
  have fZ := kZ.out.free
  go_wp2_with fail
  have hu := Hd.mk ((((((Upd.setCell W4 ⟨p + 1, 0, none⟩ (.string ⟨#[]⟩)).trans (Upd.setCell _ ⟨p + 1, 1, none⟩ (.string ⟨#[]⟩))).trans (Upd.setCell _ ⟨p + 1, 2, none⟩ (.int .i64 0))).trans (Upd.setCell _ ⟨p + 1, 3, none⟩ (.int .u64 0))).trans (Upd.setCell _ ⟨p + 1, 4, none⟩ (.string ⟨#[]⟩))).trans (Upd.setCell _ ⟨p + 1, 5, none⟩ (.slice none 0 0)))
  exact ret_box2 rfl (p + 1) _ 54 _ ((((((kZ.out.setCell 0 (.string ⟨#[]⟩)).setCell 1 (.string ⟨#[]⟩)).setCell 2 (.int .i64 0)).setCell 3 (.int .u64 0)).setCell 4 (.string ⟨#[]⟩)).setCell 5 (.slice none 0 0)) rfl rfl Try.underlying54 rfl size54
    ⟨_, rfl, _, rfl, ot_zero _ _, Below.trans kx.out (hu.out.below (by rw [hp.out]; show p ≤ p + 1; omega))⟩
set_option maxRecDepth 100000 in
set_option maxHeartbeats 8000000 in
theorem tree_cut_snoc (t : T) (init : List Step) (s : Step) (S S' : Nat → Prop) (w : World) (c : List Value) (A : Option Addr) (ac : Nat) (h : RT S w t c) (hw : WRow S' w A (init ++ [s]) ac) (hsz : t.size ≤ 1048576) :
    Calls Try.prog 72 #[.agg c.toArray, .slice A (init ++ [s]).length ac] w (Ret (ChgPost (cutR t (init ++ [s])) w)) := by
  rw [cutR_snoc]
  generalize hr0 : (match getT t (init ++ [s]) with | none => (zeroT, (30 : Int)) | some _ => (cutT t (init ++ [s]), 0)) = r
  replace hr0 := Hd.mk hr0
  obtain ⟨K, kc, rfl, _⟩ := h.row
  have kr := Hd.mk h
  have kw := Hd.mk hw
  have hlen : (init ++ [s]).length = init.length + 1 := by simp
  have hcap := hw.cap
  have hwl := hw.len
  obtain ⟨b2, o2, rfl, _, hdk⟩ := WRow.at hw (j := init.length) (x := s) (by simp)
  have hlenH := Hd.mk hlen
  rw [hlen] at hcap hwl ⊢
  have kwi := Hd.mk hw.init
  have hszH := Hd.mk hsz
  clear h hw hsz
  simp only [cT] at kr ⊢
  generalize hL : init.length = L at *
  replace hL := Hd.mk hL
  go_enter Try.func72, Try.ntmps72
  go_wp2_with (with_reducible refine stop_at (.load 54 (.tmp 2)) ?_)
  refine Stop.mk ?_
  have kx := Hd.mk ((Ext.alloc w (.cells #[.string t.name, .string t.key, .int .i64 t.kind, .int .u64 t.num, .string t.text, .slice K t.kids.length kc] 54)).trans (Ext.alloc _ (.cells #[.string ⟨#[]⟩, .string ⟨#[]⟩, .int .i64 0, .int .u64 0, .string ⟨#[]⟩, .slice none 0 0] 54)))
  have kT := Hd.mk ((Blk.new w #[.string t.name, .string t.key, .int .i64 t.kind, .int .u64 t.num, .string t.text, .slice K t.kids.length kc] 54).alloc (.cells #[.string ⟨#[]⟩, .string ⟨#[]⟩, .int .i64 0, .int .u64 0, .string ⟨#[]⟩, .slice none 0 0] 54))
  have kZ := Hd.mk (Blk.new2 w (.cells #[.string t.name, .string t.key, .int .i64 t.kind, .int .u64 t.num, .string t.text, .slice K t.kids.length kc] 54) #[.string ⟨#[]⟩, .string ⟨#[]⟩, .int .i64 0, .int .u64 0, .string ⟨#[]⟩, .slice none 0 0] 54)
  generalize (w.alloc _).alloc _ = W at *
  generalize hp : w.heap.size = p at *
  replace hp := Hd.mk hp
  have gT := kT.out.cell
  go_wp2_with fail
  have kZ0 := kZ
  refine Calls.mono (own_clone _ t S W _ (Nat.le_refl _) (kr.out.ext kx.out)) ?_
  rintro e w3 ⟨_, rfl, c1, rfl, hr1, hx⟩
  obtain ⟨K1, kc1, _, _, rfl, _⟩ := hr1.row
  replace kx := Hd.mk (kx.out.trans hx)
  replace kZ := Hd.mk (kZ.out.ext hx)
  replace kT := Hd.mk (kT.out.ext hx)
  have hB := Hd.mk (show p + 1 < W.heap.size from kZ0.out.lt)
  have hr1 := Hd.mk hr1
  have hlohi := Hd.mk hx.size
  clear hx gT
  simp only [cT] at hr1 ⊢
  have gT := kT.out.cell
  have fT := kT.out.free
  go_wp2_with (with_reducible refine stop_at (.call { callee := .builtin .len, args := #[.tmp 11], argTypes := #[59] }) ?_)
  refine Stop.mk ?_
  generalize hlo : W.heap.size = lo at *
  generalize hhi : w3.heap.size = hi at *
  replace hlo := Hd.mk hlo
  replace hhi := Hd.mk hhi
  have hu := ((((((Upd.setCell w3 ⟨p, 0, none⟩ (.string t.name)).trans (Upd.setCell _ ⟨p, 1, none⟩ (.string t.key))).trans (Upd.setCell _ ⟨p, 2, none⟩ (.int .i64 t.kind))).trans (Upd.setCell _ ⟨p, 3, none⟩ (.int .u64 t.num))).trans (Upd.setCell _ ⟨p, 4, none⟩ (.string t.text))).trans (Upd.setCell _ ⟨p, 5, none⟩ (.slice K1 t.kids.length kc1)))
  have kTn : Blk ((((((w3.setCell ⟨p, 0, none⟩ (.string t.name)).setCell ⟨p, 1, none⟩ (.string t.key)).setCell ⟨p, 2, none⟩ (.int .i64 t.kind)).setCell ⟨p, 3, none⟩ (.int .u64 t.num)).setCell ⟨p, 4, none⟩ (.string t.text)).setCell ⟨p, 5, none⟩ (.slice K1 t.kids.length kc1)) (p) [.string t.name, .string t.key, .int .i64 t.kind, .int .u64 t.num, .string t.text, .slice K1 t.kids.length kc1] 54 := ((((((kT.out.setCell 0 (.string t.name)).setCell 1 (.string t.key)).setCell 2 (.int .i64 t.kind)).setCell 3 (.int .u64 t.num)).setCell 4 (.string t.text)).setCell 5 (.slice K1 t.kids.length kc1))
  generalize ((((((w3.setCell ⟨p, 0, none⟩ (.string t.name)).setCell ⟨p, 1, none⟩ (.string t.key)).setCell ⟨p, 2, none⟩ (.int .i64 t.kind)).setCell ⟨p, 3, none⟩ (.int .u64 t.num)).setCell ⟨p, 4, none⟩ (.string t.text)).setCell ⟨p, 5, none⟩ (.slice K1 t.kids.length kc1)) = W4 at *
  replace kT := Hd.mk kTn
  clear kTn
  replace kZ := Hd.mk (hu.blk (by show p + 1 ≠ p; omega) kZ.out)
  replace hr1 := Hd.mk (hr1.out.keep fun b hb => hu.block b (by have := hB.out; have := hb.1; show b ≠ p; omega))
  replace kx := Hd.mk (show Ext w W4 from Below.trans kx.out (hu.below (by rw [hp.out]; exact Nat.le_refl _)))
  replace hu := Hd.mk hu
  have hsz4 := Hd.mk (show W4.heap.size = hi by rw [hu.out.size, hhi.out])
  clear hu gT fT
  have hsz4p := Hd.mk (show p + 1 < W4.heap.size by rw [hsz4.out]; exact Nat.lt_of_lt_of_le hB.out hlohi.out)
  have hLl : L < L + 1 := by omega
  have hat := tree_at t (init ++ [s]) _ S' W4 p 0 _ (some ⟨b2, o2, none⟩) ac hr1.out.rt (fun q v hq => by rw [Nat.zero_add, kT.out.cell]; exact hq) (kw.out.ext kx.out)
  rw [hlenH.out] at hat
  have hat2 := fun W (h : Ext W4 W) => tree_at t init _ S' W p 0 _ (some ⟨b2, o2, none⟩) ac (hr1.out.rt.ext h) (fun q v hq => by rw [Nat.zero_add, (kT.out.ext h).cell]; exact hq) (kwi.out.ext (kx.out.trans h))
  rw [hL.out] at hat2
  have hat := Hd.mk hat
  have hat2 := Hd.mk hat2
  go_wp2_with fail
  refine Calls.mono hat.out ?_
  rintro e w5 ⟨hx, hres⟩
  have hx5 := Hd.mk hx
  replace kx := Hd.mk (kx.out.trans hx)
  have kT4 := kT
  replace kZ := Hd.mk (kZ.out.ext hx)
  clear hx hat
  rcases hres with ⟨hg, rfl⟩ | ⟨uk, _, _, hg, rfl, _⟩
  · obtain rfl : r = (zeroT, 30) := by rw [← hr0.out, hg]
    clear hg kT4 hat2 hr1 hx5
    have gZ := kZ.out.cell
    have fZ := kZ.out.free
    go_wp2_with fail
    have hu := Hd.mk ((((((Upd.setCell w5 ⟨p + 1, 0, none⟩ (.string ⟨#[]⟩)).trans (Upd.setCell _ ⟨p + 1, 1, none⟩ (.string ⟨#[]⟩))).trans (Upd.setCell _ ⟨p + 1, 2, none⟩ (.int .i64 0))).trans (Upd.setCell _ ⟨p + 1, 3, none⟩ (.int .u64 0))).trans (Upd.setCell _ ⟨p + 1, 4, none⟩ (.string ⟨#[]⟩))).trans (Upd.setCell _ ⟨p + 1, 5, none⟩ (.slice none 0 0)))
    exact ret_box2 rfl (p + 1) _ 54 _ ((((((kZ.out.setCell 0 (.string ⟨#[]⟩)).setCell 1 (.string ⟨#[]⟩)).setCell 2 (.int .i64 0)).setCell 3 (.int .u64 0)).setCell 4 (.string ⟨#[]⟩)).setCell 5 (.slice none 0 0)) rfl rfl Try.underlying54 rfl size54
      ⟨_, rfl, _, rfl, ot_zero _ _, Below.trans kx.out (hu.out.below (by rw [hp.out]; show p ≤ p + 1; omega))⟩
  · have hg2 := hg
    rw [getT_append] at hg2
    have hrr : r = (cutT t (init ++ [s]), 0) := by rw [← hr0.out, hg]
    replace hrr := Hd.mk hrr
    cases hgi : getT t init with
    | none => rw [hgi] at hg2; cases hg2
    | some u =>
    rw [hgi, Option.bind_some, getT_one] at hg2
    have hgi := Hd.mk hgi
    have hg2 := Hd.mk hg2
    clear hg hr0
    go_wp2_with fail
    refine Calls.mono (hat2.out _ hx5.out) ?_
    rintro e w6 ⟨hx, hres⟩
    clear hat2
    rcases hres with ⟨hg, _⟩ | ⟨u', bu, ou, hg, rfl, hpth⟩
    · rw [hgi.out] at hg; cases hg
    rw [hgi.out] at hg
    obtain rfl : u = u' := by cases hg; rfl
    have hr5 := hr1.out.ext (fun b hb => by rw [hsz4.out]; exact hb.2) hx5.out
    have kT5 := Hd.mk (kT4.out.ext hx5.out)
    have hs45 := Hd.mk (show hi ≤ w5.heap.size from hsz4.out ▸ hx5.out.size)
    obtain ⟨Su, cu, f1, f2, f3, f4, f5, f6⟩ := focus init _ w5 p 0 t u _ bu ou hr5 (fun b hb => Nat.lt_of_lt_of_le hb.2 hs45.out) (fun h => by have := hB.out; have := h.1; omega) (fun q v hq => by rw [Nat.zero_add, kT5.out.cell]; exact hq) hgi.out hpth
    obtain ⟨Ku, ku, css, Si, rfl, hrow⟩ := f1.row
    have hbl : bu < w5.heap.size := by rcases f5 with ⟨_, rfl, _⟩ | ⟨_, h, _⟩; exact kT5.out.lt; exact Nat.lt_of_lt_of_le h.2 hs45.out
    have hbne : bu ≠ p + 1 := by have := hB.out; rcases f5 with ⟨_, rfl, _⟩ | ⟨_, h, _⟩; omega; have := h.1; omega
    have hSuP : ∀ b, Su b → lo ≤ b ∧ b < hi := fun b hb => f2 b hb
    have hblk : ∃ cs, Blk w5 bu cs 54 ∧ ou + 6 ≤ cs.length := by rcases f5 with ⟨_, rfl, rfl, _⟩ | ⟨_, _, h⟩; exact ⟨_, kT5.out, by simp⟩; exact h
    have hf4 := Hd.mk f4
    have hf5 := Hd.mk f5
    have hf6 := Hd.mk f6
    have hf1 := Hd.mk f1
    have hf3 := Hd.mk f3
    have hrow := Hd.mk hrow
    have hSuH := Hd.mk hSuP
    have hblkH := Hd.mk hblk
    have hsu := size_get init t u hgi.out
    have hus := u.size_eq
    have hul := sizeL_len u.kids
    have hun : u.kids.length ≤ 1048576 := by have := hszH.out; omega
    rcases findT_kid u.kids s with ⟨_, hkn⟩ | ⟨i, k0, hfi, hki, hks, _, hcl⟩
    · rw [hg2.out] at hkn; cases hkn
    have hlt := (List.getElem?_eq_some_iff.1 hki).1
    obtain ⟨g, cap, sp, hv, _, hbk, hcap2, hmx, hszz⟩ := own_form hrow.out.own (by omega)
    simp only [Value.slice.injEq, true_and] at hv
    obtain ⟨rfl, rfl⟩ := hv
    have hgS := Hd.mk (hrow.out.g g rfl)
    have hgb := hbk.lt
    have hgbu : bu ≠ g := fun e => hf3.out (e ▸ hgS.out.1)
    have hgp : g ≠ p ∧ g ≠ p + 1 := by have := hSuH.out g hgS.out.1; have := hB.out; exact ⟨by omega, by omega⟩
    have hfind := tree_find u s Su w6 bu ou _ (f1.rt.ext hx) (fun q v hq => Ext.cell hx (f4 q v hq))
    rw [hfi] at hfind
    replace hfind := Hd.mk hfind
    have kcy : ∀ (q : Nat) v, [Value.string s.1, .string s.2][q]? = some v → w6.cell? ⟨b2, o2 + L * 2 + q, none⟩ = some v := fun q v hq => Ext.cell (kx.out.trans hx) (hdk q v hq)
    obtain ⟨d0, d1⟩ := twoC (Ext.refl w6) kcy
    have ltd := World.block_lt_of_cell? w6 _ d0
    have hx6 := Hd.mk hx
    replace kx := Hd.mk (kx.out.trans hx)
    replace kZ := Hd.mk (kZ.out.ext hx)
    have hone := Hd.mk (all_one hrow.out.hl (fun i k c h1 h2 => ((hrow.out.each i k c h1 h2).rt.mono fun b _ hb => hrow.out.sub i b hb)))
    have hfl6 := Hd.mk (flatten_take css hrow.out.h6)
    have hLi : (L : Int) < (L : Int) + 1 := by omega
    have hbkH := Hd.mk hbk
    have hszzH := Hd.mk hszz
    have hfxn := Hd.mk (flatten_len css hrow.out.h6)
    clear hx f1 f2 f3 f4 f5 f6 hSuP hblk hsu hus hul hr5 hpth hg kcy hbk hszz
    go_wp2_with fail
    refine Calls.mono hfind.out ?_
    rintro e w7 ⟨rfl, hx⟩
    replace hx6 := Hd.mk (hx6.out.trans hx)
    replace kx := Hd.mk (kx.out.trans hx)
    replace kZ := Hd.mk (kZ.out.ext hx)
    clear hx hfind d0 d1 ltd
    obtain ⟨e0, e1, e2, e3, e4, e5⟩ := six hx6.out hf4.out
    have lt1 := World.block_lt_of_cell? w7 _ e0
    have hdel := slices_delete (hbkH.out.ext hx6.out) (by rw [hfxn.out, hrow.out.hl]) hlt hun hcap2 hmx hszzH.out hone.out
    rw [show (((i + 1 : Nat)) : Int) = (i : Int) + 1 from by omega] at hdel
    replace hdel := Hd.mk hdel
    go_wp2_with fail
    refine Calls.mono hdel.out ?_
    rintro e w8 ⟨rfl, hown2, hgr⟩
    clear hdel e0 e1 e2 e3 e4 e5 lt1
    obtain ⟨cs, hcs, hou⟩ := hblkH.out
    have kb := Hd.mk (show Blk w8 bu cs 54 from (hgr.block bu (Nat.lt_of_lt_of_le hbl hx6.out.size) (fun e => hgbu (by injection e))).trans (hcs.ext hx6.out))
    obtain ⟨z0, z5⟩ := cell_some kb.out (i := ou + 5) (by omega)
    have fb := kb.out.free
    have hown2 := Hd.mk hown2
    have hgr := Hd.mk hgr
    go_wp2_with ((with_reducible refine stop_at (.load 54 (.tmp 2)) ?_))
    refine Stop.mk ?_
    have hu := Upd.setCell w8 ⟨bu, ou + 5, none⟩ (.slice (some ⟨g, 0, none⟩) (u.kids.length - 1) ku)
    have kb2 := kb.out.setCell (ou + 5) (.slice (some ⟨g, 0, none⟩) (u.kids.length - 1) ku)
    generalize w8.setCell _ _ = W11 at *
    have hub : ∀ k, k ≠ bu → W11.heap[k]? = w8.heap[k]? := fun k hk => hu.block k hk
    have hsm : ∀ b, b < w5.heap.size → b ≠ bu → b ≠ g → W11.heap[b]? = w5.heap[b]? := fun b hb h2 h3 => (hub b h2).trans ((hgr.out.block b (Nat.lt_of_lt_of_le hb hx6.out.size) (fun e => h3 (by injection e))).trans (hx6.out.block b hb))
    have hown3 := own_keep (w' := W11) hown2.out (fun y hy => hub y (fun e => by subst e; exact hgbu (by simpa [Value.ownBlock] using hy.symm)))
    have hl1 : (u.kids.eraseIdx i).length = u.kids.length - 1 := by rw [List.length_eraseIdx, if_pos hlt]
    have hl2 : (css.eraseIdx i).length = u.kids.length - 1 := by rw [List.length_eraseIdx, if_pos (by rw [hrow.out.hl]; exact hlt), hrow.out.hl]
    have hfe : (css.eraseIdx i).flatten = css.flatten.take (i * 6) ++ css.flatten.drop ((i + 1) * 6) := by rw [List.eraseIdx_eq_take_drop_succ, List.flatten_append, (hfl6.out i).1, (hfl6.out (i + 1)).2]
    have hOR := hrow.out.perm (N := w5.heap.size) (Sx := fun _ => False) (x := zeroT) (cx := []) (w' := W11) (K' := some ⟨g, 0, none⟩) (kc' := ku) (kids' := u.kids.eraseIdx i) (css' := css.eraseIdx i) (fun b hb => by have := hSuH.out b hb; exact Nat.lt_of_lt_of_le this.2 hs45.out) (delF i) (fun ⟨j, hj⟩ => by unfold delF at hj; split at hj <;> cases hj) (fun b hb => hb.elim) (by rw [hl1, hl2]) (by rw [hl1]; omega) (fun j k c hj hc => by
      obtain ⟨q, h1, h2⟩ := delF_get hj
      obtain ⟨q2, h3, h4⟩ := delF_get hc
      rw [h1] at h3; cases h3
      exact .inl ⟨q, h1, h2, h4⟩) (delF_inj i) (by rw [hl1, hfe]; exact hown3) (fun j b hb => by
      have h1 := hSuH.out b (hrow.out.sub j b hb)
      exact hsm b (Nat.lt_of_lt_of_le h1.2 hs45.out) (fun e => hf3.out (e ▸ hrow.out.sub j b hb)) (fun e => hgS.out.2 j (e ▸ hb))) (fun y hy => .inl hy)
    have hOT : OT (fun b => Su b ∨ w5.heap.size ≤ b) W11 (u.wk (u.kids.eraseIdx i)) (cT u.name u.key u.kind u.num u.text (some ⟨g, 0, none⟩) (u.kids.eraseIdx i).length ku) := OT.of_row (t := u.wk (u.kids.eraseIdx i)) hOR
    rw [hl1] at hOT
    obtain ⟨c', g1, g2, g3⟩ := hf6.out W11 _ _ _ (fun b hb h1 h2 => hsm b (Nat.lt_of_lt_of_le hb.2 hs45.out) h1 (fun e => h2 (e ▸ hgS.out.1))) (fun _ cs0 hcs0 => by
      obtain rfl := hcs0.inj hcs
      refine ⟨_, kb2, by simp, fun q hq => List.getElem?_set_ne (by omega), fun q v hq => ?_⟩
      by_cases h5 : q = 5
      · subst h5
        rw [List.getElem?_set_self (by omega)]
        exact hq
      · rw [List.getElem?_set_ne (by omega), ← hcs0.cell]
        refine hf4.out q v ?_
        match q, h5, hq with
        | 0, _, hq => exact hq
        | 1, _, hq => exact hq
        | 2, _, hq => exact hq
        | 3, _, hq => exact hq
        | 4, _, hq => exact hq
        | 5, h5, _ => exact absurd rfl h5
        | q + 6, _, hq => simp [cT] at hq) hOT (fun b hb => hb)
    have kTc : Blk W11 p c' 54 := by
      by_cases hi0 : init = []
      · rw [g2 hi0]
        rcases hf5.out with ⟨_, h1, h2, h3⟩ | ⟨h, _⟩
        · subst h1 h2
          obtain rfl := hcs.inj kT5.out
          rw [← h3] at kb2
          exact kb2
        · exact absurd hi0 h
      · rw [g3 hi0]
        have hbS : bu ≠ p := fun e => by
          rcases hf5.out with ⟨h, _⟩ | ⟨_, h, _⟩
          · exact hi0 h
          · have := h.1; have := hB.out; omega
        exact (hsm p kT5.out.lt (fun e => hbS e.symm) (fun e => hgp.1 e.symm)).trans kT5.out
    obtain rfl : r = (putT t init (u.wk (u.kids.eraseIdx i)), 0) := by rw [hrr.out, cutT_put init s t u hgi.out, hcl]
    generalize putT t init (u.wk (u.kids.eraseIdx i)) = tn at *
    obtain ⟨K9, kc9, _, _, rfl, _⟩ := g1.row
    replace kZ := Hd.mk (show Blk W11 (p + 1) _ 54 from (hub (p + 1) (fun e => hbne e.symm)).trans (grownBy_blk' hgr.out (fun e => hgp.2 (by injection e with e; exact e.symm)) kZ.out))
    have hpbu : p ≤ bu := by rcases hf5.out with ⟨_, h, _⟩ | ⟨_, h, _⟩; omega; have := h.1; have := hB.out; omega
    replace kx := Hd.mk (show Ext w W11 from Below.trans (Below.grown kx.out hgr.out (by rw [hp.out]; have := hx6.out.size; have := hs45.out; have := hsz4p.out; have := hsz4.out; omega) (fun k hk => by injection hk with hk; have h2 := hSuH.out g hgS.out.1; have := hB.out; rw [hp.out]; omega)) (hu.below (by rw [hp.out]; exact hpbu)))
    have g1 := Hd.mk g1.lt
    have hW11 := Hd.mk (show w5.heap.size ≤ W11.heap.size by rw [hu.size]; exact Nat.le_trans hx6.out.size hgr.out.size)
    replace kT := Hd.mk kTc
    clear hown2 hown3 hOR hOT g2 g3 hsm hub kb2 kb z5 fb hgr hcs hl1 hl2 hfe kTc
    simp only [cT] at kT g1
    have gT := kT.out.cell
    have gZ := kZ.out.cell
    have fZ := kZ.out.free
    go_wp2_with fail
    have hu2 := Hd.mk ((((((Upd.setCell W11 ⟨p + 1, 0, none⟩ (.string tn.name)).trans (Upd.setCell _ ⟨p + 1, 1, none⟩ (.string tn.key))).trans (Upd.setCell _ ⟨p + 1, 2, none⟩ (.int .i64 tn.kind))).trans (Upd.setCell _ ⟨p + 1, 3, none⟩ (.int .u64 tn.num))).trans (Upd.setCell _ ⟨p + 1, 4, none⟩ (.string tn.text))).trans (Upd.setCell _ ⟨p + 1, 5, none⟩ (.slice K9 tn.kids.length kc9)))
    exact ret_box2 rfl (p + 1) _ 54 _ ((((((kZ.out.setCell 0 (.string tn.name)).setCell 1 (.string tn.key)).setCell 2 (.int .i64 tn.kind)).setCell 3 (.int .u64 tn.num)).setCell 4 (.string tn.text)).setCell 5 (.slice K9 tn.kids.length kc9)) rfl rfl Try.underlying54 rfl size54
      ⟨_, rfl, _, rfl, (g1.out.keep fun b hb => hu2.out.block b (by have := hB.out; have := hsz4p.out; have := hs45.out; have := hsz4.out; show b ≠ p + 1; rcases hb.1 with h | h <;> omega)).mono fun b hb => ⟨by rw [hp.out]; have := hB.out; have := hsz4p.out; have := hs45.out; have := hsz4.out; rcases hb.1 with h | h <;> omega, by rw [hu2.out.size]; exact hb.2⟩, Below.trans kx.out (hu2.out.below (by rw [hp.out]; show p ≤ p + 1; omega))⟩
theorem tree_cut (t : T) (way : List Step) (S S' : Nat → Prop) (w : World) (c : List Value) (A : Option Addr) (ac : Nat) (h : RT S w t c) (hw : WRow S' w A way ac) (hsz : t.size ≤ 1048576) :
    Calls Try.prog 72 #[.agg c.toArray, .slice A way.length ac] w (Ret (ChgPost (cutR t way) w)) := by
  rcases List.eq_nil_or_concat way with rfl | ⟨init, s, rfl⟩
  · exact tree_cut_nil t S w c A ac h
  · rw [List.concat_eq_append] at hw ⊢
    exact tree_cut_snoc t init s S S' w c A ac h hw hsz
end Go.Proofs.Ytgkgedjmnbjalaa

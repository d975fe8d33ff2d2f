/- Texts that the law needs, joined.
   Conditions: none. -/
import Derived.Test.YtgkgedjmnbjalaaToH
import Derived.Test.YtgkgedjmnbjalaaToD
set_option linter.unusedSimpArgs false
set_option linter.unusedVariables false
namespace Go.Proofs.Ytgkgedjmnbjalaa
open Go.RowKit Go.Sort
set_option maxRecDepth 100000 in
set_option maxHeartbeats 4000000 in
theorem sym_first (pre : List It) (x : It) (s2 post : List It) (sp : List Value) (g cap a m b n : Nat) (w : World) (hb : Blk w g (rowI (pre ++ ([x] ++ s2) ++ post) ++ sp) 54) (ha : a = pre.length) (hmm : m = a + 1) (hbb : b = m + s2.length) (hn : n = (pre ++ ([x] ++ s2) ++ post).length) (hm : n ≤ 1048576) (hs : SrtLe s2) :
    Calls Try.prog 157 #[.slice (some ⟨g, 0, none⟩) n cap, .int .i64 a, .int .i64 m, .int .i64 b, .func (.func 116) #[] #[]] w fun e w' => e = .returned (.tuple #[]) ∧ (∃ s, SrtLe s ∧ SameF ([x] ++ s2) s ∧ s.length = ([x] ++ s2).length ∧ Blk w' g (rowI (pre ++ s ++ post) ++ sp) 54) ∧ w.grownBy w' (some g) := by
  have hlen : n = b + post.length := by rw [hn]; simp only [List.length_append, List.length_cons, List.length_nil]; omega
  have hw0 : IntKind.i64.wrap ((m : Int) - (a : Int)) = 1 := by rw [IntKind.wrap_i64]; omega
  have hsI : SrtIn (pre ++ ([x] ++ s2) ++ post) m b := by
    have h1 := srt_in (pre := pre ++ [x]) (s := s2) (post := post) hs
    rw [show (pre ++ [x]).length = m by simp; omega, ← hbb] at h1
    simpa using h1
  have hxa : (pre ++ ([x] ++ s2) ++ post)[a]? = some x := by
    rw [ha]
    simp
  obtain ⟨l, hl⟩ : ∃ l, l = pre ++ ([x] ++ s2) ++ post := ⟨_, rfl⟩
  rw [← hl] at hb hsI hxa hn
  have hmb : m ≤ b := by omega
  have hbn : b ≤ n := by omega
  have han : a < n := by omega
  replace ha := Hd.mk ha
  replace hmm := Hd.mk hmm
  replace hbb := Hd.mk hbb
  replace hn := Hd.mk hn
  replace hb := Hd.mk hb
  replace hl := Hd.mk hl
  replace hlen := Hd.mk hlen
  replace hsI := Hd.mk hsI
  replace hxa := Hd.mk hxa
  replace hs := Hd.mk hs
  go_enter Try.func157, Try.ntmps157
  go_wp2_with fail
  clear hw0
  go_loopg [10, 11] (n + 1) (fun q si sj wr => ∃ i j : Nat, m ≤ i ∧ i ≤ j ∧ j ≤ b ∧ Hd (j - i < q) ∧ si = .int .i64 i ∧ sj = .int .i64 j ∧ Hd (∀ p y, m ≤ p → p < i → l[p]? = some y → ltI y x = true) ∧ Hd (∀ p y, j ≤ p → p < b → l[p]? = some y → ltI y x = false) ∧ Hd (Blk wr g (rowI l ++ sp) 54) ∧ Hd (w.grownBy wr (some g)))
  case atStart => exact ⟨m, b, Nat.le_refl _, hmb, Nat.le_refl _, ⟨by omega⟩, rfl, rfl, ⟨fun p y h1 h2 => by omega⟩, ⟨fun p y h1 h2 => by omega⟩, hb, ⟨grown_ext (Ext.refl _)⟩⟩
  case round =>
  clear hb
  obtain ⟨i, j, hmi, hij, hjb, hq, rfl, rfl, hlo, hhi, hrow, hgr⟩ := hrel
  generalize wr = V0 at *
  by_cases hlt : i < j
  · obtain ⟨h, hh⟩ : ∃ h, h = (i + j) / 2 := ⟨_, rfl⟩
    have hh1 : i ≤ h := by omega
    have hh2 : h < j := by omega
    have hh3 : h < n := by omega
    have hh4 : h < l.length := by have := hn.out; omega
    have hy := List.getElem?_eq_getElem hh4
    generalize l[h] = y at hy
    have e1 : IntKind.i64.wrap ((i : Int) + (j : Int)) = ((i + j : Nat) : Int) := by rw [IntKind.wrap_i64]; omega
    have e2 : ((i : Int) + (j : Int)) / 2 = (h : Int) := by omega
    have hcA := Hd.mk (rowI_cell hrow.out hy)
    have hcB := Hd.mk (rowI_cell hrow.out hxa.out)
    have hcmp := Hd.mk (fun w => tree_compare y.1 x.1 y.2.1 x.2.1 y.1.kids.length y.2.2 x.1.kids.length x.2.2 w)
    simp only [cT, cI] at hcmp hcA hcB
    have hlt0 : (i : Int) < (j : Int) := by omega
    have hh3i : (h : Int) < (n : Int) := by omega
    have hani : (a : Int) < (n : Int) := by omega
    replace hy := Hd.mk hy
    replace hh := Hd.mk hh
    clear hh4
    cases hle : ltI y x with
    | true =>
      have hneg := Hd.mk (cmp_lt hle)
      go_wp2_with fail
      refine Flow.wp_region_flow_l (fun qq => match qq with
        | 40 => SP.eq (.func (.func 116) #[] #[])
        | 41 => SP.eq (.slice (some ⟨g, 0, none⟩) n cap)
        | 42 => SP.eq (.int .i64 (h : Nat))
        | 43 => SP.eq (.pointer (some ⟨g, h * 6, none⟩))
        | 44 => SP.eq (.agg #[.string y.1.name, .string y.1.key, .int .i64 y.1.kind, .int .u64 y.1.num, .string y.1.text, .slice y.2.1 y.1.kids.length y.2.2])
        | 45 => SP.eq (.slice (some ⟨g, 0, none⟩) n cap)
        | 46 => SP.eq (.int .i64 (a : Nat))
        | 47 => SP.eq (.pointer (some ⟨g, a * 6, none⟩))
        | 48 => SP.eq (.agg #[.string x.1.name, .string x.1.key, .int .i64 x.1.kind, .int .u64 x.1.num, .string x.1.text, .slice x.2.1 x.1.kids.length x.2.2])
        | 49 => SP.eq (.int .i64 (cmpT y.1 x.1))
        | 50 => SP.eq (.bool true)
        | _ => SP.any) 11 (by kernel_rfl) 220 rfl (by kernel_rfl) ?_ ?_
      · skip
        refine ⟨?_, ?_, ?_, ?_, ?_, ?_, ?_, ?_, ?_, ?_, ?_, trivial⟩
        · intro act W2 hk
          refine Flow.does_intro rfl (fun Kq hK => ?_)
          have e4 : act.tmps[4]?.getD undef = .func (.func 116) #[] #[] := hk.o 4 (by kernel_rfl)
          clear hk
          go_simp
          exact hK _ _ (Ext.refl _) (fun d hd => by cases hd; rfl)
        · intro act W2 hk
          refine Flow.does_intro rfl (fun Kq hK => ?_)
          have e0 : act.tmps[0]?.getD undef = .slice (some ⟨g, 0, none⟩) n cap := hk.o 0 (by kernel_rfl)
          clear hk
          go_simp
          exact hK _ _ (Ext.refl _) (fun d hd => by cases hd; rfl)
        · intro act W2 hk
          refine Flow.does_intro rfl (fun Kq hK => ?_)
          have e12 : act.tmps[12]?.getD undef = .int .i64 (h : Nat) := hk.o 12 (by kernel_rfl)
          clear hk
          go_simp
          exact hK _ _ (Ext.refl _) (fun d hd => by cases hd; rfl)
        · intro act W2 hk
          refine Flow.does_intro rfl (fun Kq hK => ?_)
          have e41 : act.tmps[41]?.getD undef = .slice (some ⟨g, 0, none⟩) n cap := hk.v 41 (by kernel_rfl)
          have e42 : act.tmps[42]?.getD undef = .int .i64 (h : Nat) := hk.v 42 (by kernel_rfl)
          clear hk
          go_simp
          exact hK _ _ (Ext.refl _) (fun d hd => by cases hd; rfl)
        · intro act W2 hk
          refine Flow.does_intro rfl (fun Kq hK => ?_)
          have e43 : act.tmps[43]?.getD undef = .pointer (some ⟨g, h * 6, none⟩) := hk.v 43 (by kernel_rfl)
          have g0 := Ext.cell ((Ext.drew V0).trans hk.ext) ((hcA.out) 0 _ rfl)
          rw [Nat.add_zero] at g0
          have g1 := Ext.cell ((Ext.drew V0).trans hk.ext) ((hcA.out) 1 _ rfl)
          have g2 := Ext.cell ((Ext.drew V0).trans hk.ext) ((hcA.out) 2 _ rfl)
          have g3 := Ext.cell ((Ext.drew V0).trans hk.ext) ((hcA.out) 3 _ rfl)
          have g4 := Ext.cell ((Ext.drew V0).trans hk.ext) ((hcA.out) 4 _ rfl)
          have g5 := Ext.cell ((Ext.drew V0).trans hk.ext) ((hcA.out) 5 _ rfl)
          clear hk
          go_simp
          exact hK _ _ (Ext.refl _) (fun d hd => by cases hd; rfl)
        · intro act W2 hk
          refine Flow.does_intro rfl (fun Kq hK => ?_)
          have e0 : act.tmps[0]?.getD undef = .slice (some ⟨g, 0, none⟩) n cap := hk.o 0 (by kernel_rfl)
          clear hk
          go_simp
          exact hK _ _ (Ext.refl _) (fun d hd => by cases hd; rfl)
        · intro act W2 hk
          refine Flow.does_intro rfl (fun Kq hK => ?_)
          have e1 : act.tmps[1]?.getD undef = .int .i64 (a : Nat) := hk.o 1 (by kernel_rfl)
          clear hk
          go_simp
          exact hK _ _ (Ext.refl _) (fun d hd => by cases hd; rfl)
        · intro act W2 hk
          refine Flow.does_intro rfl (fun Kq hK => ?_)
          have e45 : act.tmps[45]?.getD undef = .slice (some ⟨g, 0, none⟩) n cap := hk.v 45 (by kernel_rfl)
          have e46 : act.tmps[46]?.getD undef = .int .i64 (a : Nat) := hk.v 46 (by kernel_rfl)
          clear hk
          go_simp
          exact hK _ _ (Ext.refl _) (fun d hd => by cases hd; rfl)
        · intro act W2 hk
          refine Flow.does_intro rfl (fun Kq hK => ?_)
          have e47 : act.tmps[47]?.getD undef = .pointer (some ⟨g, a * 6, none⟩) := hk.v 47 (by kernel_rfl)
          have g0 := Ext.cell ((Ext.drew V0).trans hk.ext) ((hcB.out) 0 _ rfl)
          rw [Nat.add_zero] at g0
          have g1 := Ext.cell ((Ext.drew V0).trans hk.ext) ((hcB.out) 1 _ rfl)
          have g2 := Ext.cell ((Ext.drew V0).trans hk.ext) ((hcB.out) 2 _ rfl)
          have g3 := Ext.cell ((Ext.drew V0).trans hk.ext) ((hcB.out) 3 _ rfl)
          have g4 := Ext.cell ((Ext.drew V0).trans hk.ext) ((hcB.out) 4 _ rfl)
          have g5 := Ext.cell ((Ext.drew V0).trans hk.ext) ((hcB.out) 5 _ rfl)
          clear hk
          go_simp
          exact hK _ _ (Ext.refl _) (fun d hd => by cases hd; rfl)
        · intro act W2 hk
          refine Flow.does_intro rfl (fun Kq hK => ?_)
          have e40 : act.tmps[40]?.getD undef = .func (.func 116) #[] #[] := hk.v 40 (by kernel_rfl)
          have e44 : act.tmps[44]?.getD undef = .agg #[.string y.1.name, .string y.1.key, .int .i64 y.1.kind, .int .u64 y.1.num, .string y.1.text, .slice y.2.1 y.1.kids.length y.2.2] := hk.v 44 (by kernel_rfl)
          have e48 : act.tmps[48]?.getD undef = .agg #[.string x.1.name, .string x.1.key, .int .i64 x.1.kind, .int .u64 x.1.num, .string x.1.text, .slice x.2.1 x.1.kids.length x.2.2] := hk.v 48 (by kernel_rfl)
          clear hk
          go_simp
          refine Calls.mono (hcmp.out _) ?_
          rintro e W3 ⟨rfl, hx⟩
          exact hK _ _ hx (fun d hd => by cases hd; rfl)
        · intro act W2 hk
          refine Flow.does_intro rfl (fun Kq hK => ?_)
          have e49 : act.tmps[49]?.getD undef = .int .i64 (cmpT y.1 x.1) := hk.v 49 (by kernel_rfl)
          clear hk
          go_simp
          exact hK _ _ (Ext.refl _) (fun d hd => by cases hd; have h1 := hneg.out; simp [SP.eq] at h1 ⊢; omega)
      · intro act W2 he
        have hxW2 := Hd.mk ((Ext.drew V0).trans he.ext)
        obtain ⟨us, hA, hF⟩ := he.out [40, 41, 42, 43, 44, 45, 46, 47, 48, 49, 50] (by kernel_rfl)
        simp only [Flow.fillL, List.contains_cons, List.contains_nil, Nat.reduceBEq, Bool.or_false, Bool.false_or, Bool.or_true, Bool.true_or, ↓reduceIte, Nat.reduceAdd, Bool.false_eq_true] at hA
        subst hA
        have f50 : us 50 = .bool true := hF 50 (by simp)
        clear hF he
        rw [f50]
        clear f50
        refine (show wpList _ _ _ [] _ _ from ?_)
        replace hrow := Hd.mk (hrow.out.ext hxW2.out)
        replace hgr := Hd.mk (grown_trans hgr.out (grown_ext hxW2.out))
        clear hxW2
        clear e1 e2
        go_wp2_with fail
        go_roundg (j - h)
        case measure => have := hq.out; omega
        case rel => exact ⟨h + 1, j, by omega, by omega, hjb, ⟨by omega⟩, by go_num, rfl, ⟨fun p z h1 h2 hz => by
          by_cases hph : p = h
          · subst hph; rw [hy.out] at hz; cases hz; exact hle
          · exact le_lt_trans (hsI.out p h z y h1 (by omega) (by omega) hz hy.out) hle⟩, hhi, hrow, hgr⟩
    | false =>
      have hneg := Hd.mk (cmp_lt hle)
      go_wp2_with fail
      refine Flow.wp_region_flow_l (fun qq => match qq with
        | 40 => SP.eq (.func (.func 116) #[] #[])
        | 41 => SP.eq (.slice (some ⟨g, 0, none⟩) n cap)
        | 42 => SP.eq (.int .i64 (h : Nat))
        | 43 => SP.eq (.pointer (some ⟨g, h * 6, none⟩))
        | 44 => SP.eq (.agg #[.string y.1.name, .string y.1.key, .int .i64 y.1.kind, .int .u64 y.1.num, .string y.1.text, .slice y.2.1 y.1.kids.length y.2.2])
        | 45 => SP.eq (.slice (some ⟨g, 0, none⟩) n cap)
        | 46 => SP.eq (.int .i64 (a : Nat))
        | 47 => SP.eq (.pointer (some ⟨g, a * 6, none⟩))
        | 48 => SP.eq (.agg #[.string x.1.name, .string x.1.key, .int .i64 x.1.kind, .int .u64 x.1.num, .string x.1.text, .slice x.2.1 x.1.kids.length x.2.2])
        | 49 => SP.eq (.int .i64 (cmpT y.1 x.1))
        | 50 => SP.eq (.bool false)
        | _ => SP.any) 11 (by kernel_rfl) 220 rfl (by kernel_rfl) ?_ ?_
      · skip
        refine ⟨?_, ?_, ?_, ?_, ?_, ?_, ?_, ?_, ?_, ?_, ?_, trivial⟩
        · intro act W2 hk
          refine Flow.does_intro rfl (fun Kq hK => ?_)
          have e4 : act.tmps[4]?.getD undef = .func (.func 116) #[] #[] := hk.o 4 (by kernel_rfl)
          clear hk
          go_simp
          exact hK _ _ (Ext.refl _) (fun d hd => by cases hd; rfl)
        · intro act W2 hk
          refine Flow.does_intro rfl (fun Kq hK => ?_)
          have e0 : act.tmps[0]?.getD undef = .slice (some ⟨g, 0, none⟩) n cap := hk.o 0 (by kernel_rfl)
          clear hk
          go_simp
          exact hK _ _ (Ext.refl _) (fun d hd => by cases hd; rfl)
        · intro act W2 hk
          refine Flow.does_intro rfl (fun Kq hK => ?_)
          have e12 : act.tmps[12]?.getD undef = .int .i64 (h : Nat) := hk.o 12 (by kernel_rfl)
          clear hk
          go_simp
          exact hK _ _ (Ext.refl _) (fun d hd => by cases hd; rfl)
        · intro act W2 hk
          refine Flow.does_intro rfl (fun Kq hK => ?_)
          have e41 : act.tmps[41]?.getD undef = .slice (some ⟨g, 0, none⟩) n cap := hk.v 41 (by kernel_rfl)
          have e42 : act.tmps[42]?.getD undef = .int .i64 (h : Nat) := hk.v 42 (by kernel_rfl)
          clear hk
          go_simp
          exact hK _ _ (Ext.refl _) (fun d hd => by cases hd; rfl)
        · intro act W2 hk
          refine Flow.does_intro rfl (fun Kq hK => ?_)
          have e43 : act.tmps[43]?.getD undef = .pointer (some ⟨g, h * 6, none⟩) := hk.v 43 (by kernel_rfl)
          have g0 := Ext.cell ((Ext.drew V0).trans hk.ext) ((hcA.out) 0 _ rfl)
          rw [Nat.add_zero] at g0
          have g1 := Ext.cell ((Ext.drew V0).trans hk.ext) ((hcA.out) 1 _ rfl)
          have g2 := Ext.cell ((Ext.drew V0).trans hk.ext) ((hcA.out) 2 _ rfl)
          have g3 := Ext.cell ((Ext.drew V0).trans hk.ext) ((hcA.out) 3 _ rfl)
          have g4 := Ext.cell ((Ext.drew V0).trans hk.ext) ((hcA.out) 4 _ rfl)
          have g5 := Ext.cell ((Ext.drew V0).trans hk.ext) ((hcA.out) 5 _ rfl)
          clear hk
          go_simp
          exact hK _ _ (Ext.refl _) (fun d hd => by cases hd; rfl)
        · intro act W2 hk
          refine Flow.does_intro rfl (fun Kq hK => ?_)
          have e0 : act.tmps[0]?.getD undef = .slice (some ⟨g, 0, none⟩) n cap := hk.o 0 (by kernel_rfl)
          clear hk
          go_simp
          exact hK _ _ (Ext.refl _) (fun d hd => by cases hd; rfl)
        · intro act W2 hk
          refine Flow.does_intro rfl (fun Kq hK => ?_)
          have e1 : act.tmps[1]?.getD undef = .int .i64 (a : Nat) := hk.o 1 (by kernel_rfl)
          clear hk
          go_simp
          exact hK _ _ (Ext.refl _) (fun d hd => by cases hd; rfl)
        · intro act W2 hk
          refine Flow.does_intro rfl (fun Kq hK => ?_)
          have e45 : act.tmps[45]?.getD undef = .slice (some ⟨g, 0, none⟩) n cap := hk.v 45 (by kernel_rfl)
          have e46 : act.tmps[46]?.getD undef = .int .i64 (a : Nat) := hk.v 46 (by kernel_rfl)
          clear hk
          go_simp
          exact hK _ _ (Ext.refl _) (fun d hd => by cases hd; rfl)
        · intro act W2 hk
          refine Flow.does_intro rfl (fun Kq hK => ?_)
          have e47 : act.tmps[47]?.getD undef = .pointer (some ⟨g, a * 6, none⟩) := hk.v 47 (by kernel_rfl)
          have g0 := Ext.cell ((Ext.drew V0).trans hk.ext) ((hcB.out) 0 _ rfl)
          rw [Nat.add_zero] at g0
          have g1 := Ext.cell ((Ext.drew V0).trans hk.ext) ((hcB.out) 1 _ rfl)
          have g2 := Ext.cell ((Ext.drew V0).trans hk.ext) ((hcB.out) 2 _ rfl)
          have g3 := Ext.cell ((Ext.drew V0).trans hk.ext) ((hcB.out) 3 _ rfl)
          have g4 := Ext.cell ((Ext.drew V0).trans hk.ext) ((hcB.out) 4 _ rfl)
          have g5 := Ext.cell ((Ext.drew V0).trans hk.ext) ((hcB.out) 5 _ rfl)
          clear hk
          go_simp
          exact hK _ _ (Ext.refl _) (fun d hd => by cases hd; rfl)
        · intro act W2 hk
          refine Flow.does_intro rfl (fun Kq hK => ?_)
          have e40 : act.tmps[40]?.getD undef = .func (.func 116) #[] #[] := hk.v 40 (by kernel_rfl)
          have e44 : act.tmps[44]?.getD undef = .agg #[.string y.1.name, .string y.1.key, .int .i64 y.1.kind, .int .u64 y.1.num, .string y.1.text, .slice y.2.1 y.1.kids.length y.2.2] := hk.v 44 (by kernel_rfl)
          have e48 : act.tmps[48]?.getD undef = .agg #[.string x.1.name, .string x.1.key, .int .i64 x.1.kind, .int .u64 x.1.num, .string x.1.text, .slice x.2.1 x.1.kids.length x.2.2] := hk.v 48 (by kernel_rfl)
          clear hk
          go_simp
          refine Calls.mono (hcmp.out _) ?_
          rintro e W3 ⟨rfl, hx⟩
          exact hK _ _ hx (fun d hd => by cases hd; rfl)
        · intro act W2 hk
          refine Flow.does_intro rfl (fun Kq hK => ?_)
          have e49 : act.tmps[49]?.getD undef = .int .i64 (cmpT y.1 x.1) := hk.v 49 (by kernel_rfl)
          clear hk
          go_simp
          exact hK _ _ (Ext.refl _) (fun d hd => by cases hd; have h1 := hneg.out; simp [SP.eq] at h1 ⊢; omega)
      · intro act W2 he
        have hxW2 := Hd.mk ((Ext.drew V0).trans he.ext)
        obtain ⟨us, hA, hF⟩ := he.out [40, 41, 42, 43, 44, 45, 46, 47, 48, 49, 50] (by kernel_rfl)
        simp only [Flow.fillL, List.contains_cons, List.contains_nil, Nat.reduceBEq, Bool.or_false, Bool.false_or, Bool.or_true, Bool.true_or, ↓reduceIte, Nat.reduceAdd, Bool.false_eq_true] at hA
        subst hA
        have f50 : us 50 = .bool false := hF 50 (by simp)
        clear hF he
        rw [f50]
        clear f50
        refine (show wpList _ _ _ [] _ _ from ?_)
        replace hrow := Hd.mk (hrow.out.ext hxW2.out)
        replace hgr := Hd.mk (grown_trans hgr.out (grown_ext hxW2.out))
        clear hxW2
        clear e1 e2
        go_wp2_with fail
        go_roundg (h - i + 1)
        case measure => have := hq.out; omega
        case rel => exact ⟨i, h, hmi, hh1, by omega, ⟨by omega⟩, rfl, rfl, hlo, ⟨fun p z h1 h2 hz => le_trans' hle (hsI.out h p y z (by omega) h1 h2 hy.out hz)⟩, hrow, hgr⟩
  · have hji : j = i := by omega
    subst hji
    obtain ⟨P, Q, hPQ, hPl, hQl⟩ : ∃ P Q, s2 = P ++ Q ∧ P.length = j - m ∧ Q.length = b - j := ⟨s2.take (j - m), s2.drop (j - m), (List.take_append_drop _ _).symm, by rw [List.length_take]; have := hbb.out; omega, by rw [List.length_drop]; have := hbb.out; omega⟩
    have hlP : l = (pre ++ [x]) ++ P ++ (Q ++ post) := by rw [hl.out, hPQ]; simp
    have hpx : (pre ++ [x]).length = m := by have := ha.out; have := hmm.out; simp; omega
    have hP : ∀ p ∈ P, ltI p x = true := fun p hp => by
      obtain ⟨k, hk⟩ := List.getElem?_of_mem hp
      have hkl := (List.getElem?_eq_some_iff.1 hk).1
      refine hlo.out (m + k) p (by omega) (by omega) ?_
      rw [hlP, List.append_assoc, List.getElem?_append_right (by omega), hpx, show m + k - m = k by omega, List.getElem?_append_left hkl]
      exact hk
    have hQ : ∀ q ∈ Q, ltI q x = false := fun p hp => by
      obtain ⟨k, hk⟩ := List.getElem?_of_mem hp
      have hkl := (List.getElem?_eq_some_iff.1 hk).1
      refine hhi.out (j + k) p (by omega) (by omega) ?_
      rw [hlP, List.getElem?_append_right (by rw [List.length_append, hpx]; omega), List.length_append, hpx, show j + k - (m + P.length) = k by omega, List.getElem?_append_left hkl]
      exact hk
    have hfin := Hd.mk (mg_first (x := x) (P := P) (Q := Q) (by rw [← hPQ]; exact hs.out) hP hQ)
    rw [← hPQ] at hfin
    obtain ⟨i1, hi1⟩ : ∃ i1, i1 = a + P.length := ⟨_, rfl⟩
    have hw1 : IntKind.i64.wrap ((j : Int) - 1) = (i1 : Int) := by have := hmm.out; rw [IntKind.wrap_i64]; omega
    have hge : ¬ (j : Int) < (j : Int) := by omega
    have hrowP : Blk V0 g (rowI ((pre ++ []) ++ x :: (P ++ (Q ++ post))) ++ sp) 54 := by have := hrow.out; rw [hlP] at this; simpa using this
    replace hrowP := Hd.mk hrowP
    have hi1n : i1 < n := by have := hmm.out; omega
    have hsl := Hd.mk (show s2.length = P.length + Q.length by rw [hPQ, List.length_append])
    replace hi1 := Hd.mk hi1
    clear hrow hlP hP hQ hPQ hpx hlo hhi
    replace hPl := Hd.mk hPl
    replace hQl := Hd.mk hQl
    go_wp2_with fail
    go_loopg [13] (n + 1) (fun q sk wr => ∃ (k : Nat) (P1 P2 : List It), k ≤ i1 ∧ Hd (n - k < q) ∧ sk = .int .i64 k ∧ Hd (k = a + P1.length) ∧ Hd (P1 ++ P2 = P) ∧ Hd (Blk wr g (rowI ((pre ++ P1) ++ x :: (P2 ++ (Q ++ post))) ++ sp) 54) ∧ Hd (w.grownBy wr (some g)))
    case atStart => exact ⟨a, [], P, by have := hi1.out; omega, ⟨by omega⟩, rfl, ⟨rfl⟩, ⟨rfl⟩, hrowP, hgr⟩
    case round =>
    clear hrowP hgr
    obtain ⟨k, P1, P2, hki, hq2, rfl, hk, hPP, hrow, hgr⟩ := hrel
    generalize wr = V1 at *
    have hPPl : P1.length + P2.length = P.length := by rw [← hPP.out, List.length_append]
    by_cases hlt2 : k < i1
    · have hlt2i : (k : Int) < (i1 : Int) := by omega
      cases P2 with
      | nil => exfalso; have := hk.out; have := hi1.out; simp at hPPl; omega
      | cons y P3 =>
        have hrow' : Blk V1 g (rowI ((pre ++ P1) ++ x :: y :: (P3 ++ (Q ++ post))) ++ sp) 54 := hrow.out
        have hkl : (pre ++ P1).length = k := by rw [List.length_append, ← ha.out, ← hk.out]
        have hcA := Hd.mk (rowI_cell hrow' (i := (pre ++ P1).length) (x := x) (at_len _ _ _))
        have hcB := Hd.mk (rowI_cell hrow' (i := (pre ++ P1).length + 1) (x := y) (at_len1 _ _ _ _))
        have hsw := Hd.mk (swap_list2 (pre ++ P1) x y (P3 ++ (Q ++ post)))
        rw [hkl] at hcA hcB hsw
        have hln : ((pre ++ P1) ++ x :: y :: (P3 ++ (Q ++ post))).length = n := by
          rw [hlen.out]
          simp only [List.length_append, List.length_cons] at hPPl ⊢
          have := ha.out; have := hsl.out; have := hbb.out; have := hmm.out
          omega
        simp only [cI] at hcA hcB
        generalize hk2 : k + 1 = k2 at *
        have hk2n : k2 < n := by omega
        have hkn : k < n := by omega
        have hk2i : (k2 : Int) < (n : Int) := by omega
        have hki2 : (k : Int) < (n : Int) := by omega
        replace hk2 := Hd.mk hk2
        replace hln := Hd.mk hln
        replace hrow' := Hd.mk hrow'
        clear hrow hkl hPPl
        go_wp2_with fail
        refine FlowG.wp_region_flow_l (G := fun _ u => Blk u g (rowI (((pre ++ P1) ++ x :: y :: (P3 ++ (Q ++ post))).set k y) ++ sp) 54) (fun _ _ _ hx h => h.ext hx) (R := fun u v => u.grownBy v (some g)) 15 (fun _ _ h => grown_ext h) (fun h k => grown_trans h k) (fun qq => match qq with
          | 61 => SP.eq (.slice (some ⟨g, 0, none⟩) n cap)
          | 62 => SP.eq (.int .i64 (k : Nat))
          | 63 => SP.eq (.slice (some ⟨g, 0, none⟩) n cap)
          | 64 => SP.eq (.int .i64 (k : Nat))
          | 65 => SP.eq (.int .i64 (k2 : Nat))
          | 66 => SP.eq (.slice (some ⟨g, 0, none⟩) n cap)
          | 67 => SP.eq (.int .i64 (k : Nat))
          | 68 => SP.eq (.int .i64 (k2 : Nat))
          | 69 => SP.eq (.pointer (some ⟨g, k2 * 6, none⟩))
          | 70 => SP.eq (.agg #[.string y.1.name, .string y.1.key, .int .i64 y.1.kind, .int .u64 y.1.num, .string y.1.text, .slice y.2.1 y.1.kids.length y.2.2])
          | 71 => SP.eq (.slice (some ⟨g, 0, none⟩) n cap)
          | 72 => SP.eq (.int .i64 (k : Nat))
          | 73 => SP.eq (.pointer (some ⟨g, k * 6, none⟩))
          | 74 => SP.eq (.agg #[.string x.1.name, .string x.1.key, .int .i64 x.1.kind, .int .u64 x.1.num, .string x.1.text, .slice x.2.1 x.1.kids.length x.2.2])
          | 75 => SP.eq (.pointer (some ⟨g, k * 6, none⟩))
          | 76 => SP.eq (.pointer (some ⟨g, k2 * 6, none⟩))
          | _ => SP.any) 17 (by kernel_rfl) 220 rfl (by kernel_rfl) (of_decide_eq_true (by kernel_rfl)) (by decide) (by kernel_rfl) ?_ ?_ ?_
        · intro q hq u' v1 v2 hR
          split
          all_goals exact fun h => h
        · skip
          refine ⟨?_, ?_, ?_, ?_, ?_, ?_, ?_, ?_, ?_, ?_, ?_, ?_, ?_, ?_, ?_, ?_, ?_, trivial⟩
          · intro act W2 hk
            refine FlowG.does_intro rfl (fun Kq hK => ?_)
            have e0 : act.tmps[0]?.getD undef = .slice (some ⟨g, 0, none⟩) n cap := hk.o 0 (by kernel_rfl)
            clear hk
            go_simp
            exact hK _ _ (Ext.refl _) (fun h => absurd h (by decide)) (fun d hd => by cases hd; rfl)
          · intro act W2 hk
            refine FlowG.does_intro rfl (fun Kq hK => ?_)
            have e13 : act.tmps[13]?.getD undef = .int .i64 (k : Nat) := hk.o 13 (by kernel_rfl)
            clear hk
            go_simp
            exact hK _ _ (Ext.refl _) (fun h => absurd h (by decide)) (fun d hd => by cases hd; rfl)
          · intro act W2 hk
            refine FlowG.does_intro rfl (fun Kq hK => ?_)
            have e0 : act.tmps[0]?.getD undef = .slice (some ⟨g, 0, none⟩) n cap := hk.o 0 (by kernel_rfl)
            clear hk
            go_simp
            exact hK _ _ (Ext.refl _) (fun h => absurd h (by decide)) (fun d hd => by cases hd; rfl)
          · intro act W2 hk
            refine FlowG.does_intro rfl (fun Kq hK => ?_)
            have e13 : act.tmps[13]?.getD undef = .int .i64 (k : Nat) := hk.o 13 (by kernel_rfl)
            clear hk
            go_simp
            exact hK _ _ (Ext.refl _) (fun h => absurd h (by decide)) (fun d hd => by cases hd; rfl)
          · intro act W2 hk
            refine FlowG.does_intro rfl (fun Kq hK => ?_)
            have e64 : act.tmps[64]?.getD undef = .int .i64 (k : Nat) := hk.v 64 (by kernel_rfl)
            clear hk
            go_simp
            exact hK _ _ (Ext.refl _) (fun h => absurd h (by decide)) (fun d hd => by cases hd; have h1 := hk2.out; have h2 := hk2n; simp [SP.eq]; first | omega | (unfold wrap64; omega) | (rw [IntKind.wrap_i64]; omega))
          · intro act W2 hk
            refine FlowG.does_intro rfl (fun Kq hK => ?_)
            have e0 : act.tmps[0]?.getD undef = .slice (some ⟨g, 0, none⟩) n cap := hk.o 0 (by kernel_rfl)
            clear hk
            go_simp
            exact hK _ _ (Ext.refl _) (fun h => absurd h (by decide)) (fun d hd => by cases hd; rfl)
          · intro act W2 hk
            refine FlowG.does_intro rfl (fun Kq hK => ?_)
            have e13 : act.tmps[13]?.getD undef = .int .i64 (k : Nat) := hk.o 13 (by kernel_rfl)
            clear hk
            go_simp
            exact hK _ _ (Ext.refl _) (fun h => absurd h (by decide)) (fun d hd => by cases hd; rfl)
          · intro act W2 hk
            refine FlowG.does_intro rfl (fun Kq hK => ?_)
            have e67 : act.tmps[67]?.getD undef = .int .i64 (k : Nat) := hk.v 67 (by kernel_rfl)
            clear hk
            go_simp
            exact hK _ _ (Ext.refl _) (fun h => absurd h (by decide)) (fun d hd => by cases hd; have h1 := hk2.out; have h2 := hk2n; simp [SP.eq]; first | omega | (unfold wrap64; omega) | (rw [IntKind.wrap_i64]; omega))
          · intro act W2 hk
            refine FlowG.does_intro rfl (fun Kq hK => ?_)
            have e66 : act.tmps[66]?.getD undef = .slice (some ⟨g, 0, none⟩) n cap := hk.v 66 (by kernel_rfl)
            have e68 : act.tmps[68]?.getD undef = .int .i64 (k2 : Nat) := hk.v 68 (by kernel_rfl)
            clear hk
            go_simp
            exact hK _ _ (Ext.refl _) (fun h => absurd h (by decide)) (fun d hd => by cases hd; rfl)
          · intro act W2 hk
            refine FlowG.does_intro rfl (fun Kq hK => ?_)
            have e69 : act.tmps[69]?.getD undef = .pointer (some ⟨g, k2 * 6, none⟩) := hk.v 69 (by kernel_rfl)
            have g0 := Ext.cell ((Ext.drew V1).trans (hk.early (.inr (by kernel_rfl)))) ((hcB.out) 0 _ rfl)
            rw [Nat.add_zero] at g0
            have g1 := Ext.cell ((Ext.drew V1).trans (hk.early (.inr (by kernel_rfl)))) ((hcB.out) 1 _ rfl)
            have g2 := Ext.cell ((Ext.drew V1).trans (hk.early (.inr (by kernel_rfl)))) ((hcB.out) 2 _ rfl)
            have g3 := Ext.cell ((Ext.drew V1).trans (hk.early (.inr (by kernel_rfl)))) ((hcB.out) 3 _ rfl)
            have g4 := Ext.cell ((Ext.drew V1).trans (hk.early (.inr (by kernel_rfl)))) ((hcB.out) 4 _ rfl)
            have g5 := Ext.cell ((Ext.drew V1).trans (hk.early (.inr (by kernel_rfl)))) ((hcB.out) 5 _ rfl)
            clear hk
            go_simp
            exact hK _ _ (Ext.refl _) (fun h => absurd h (by decide)) (fun d hd => by cases hd; rfl)
          · intro act W2 hk
            refine FlowG.does_intro rfl (fun Kq hK => ?_)
            have e0 : act.tmps[0]?.getD undef = .slice (some ⟨g, 0, none⟩) n cap := hk.o 0 (by kernel_rfl)
            clear hk
            go_simp
            exact hK _ _ (Ext.refl _) (fun h => absurd h (by decide)) (fun d hd => by cases hd; rfl)
          · intro act W2 hk
            refine FlowG.does_intro rfl (fun Kq hK => ?_)
            have e13 : act.tmps[13]?.getD undef = .int .i64 (k : Nat) := hk.o 13 (by kernel_rfl)
            clear hk
            go_simp
            exact hK _ _ (Ext.refl _) (fun h => absurd h (by decide)) (fun d hd => by cases hd; rfl)
          · intro act W2 hk
            refine FlowG.does_intro rfl (fun Kq hK => ?_)
            have e71 : act.tmps[71]?.getD undef = .slice (some ⟨g, 0, none⟩) n cap := hk.v 71 (by kernel_rfl)
            have e72 : act.tmps[72]?.getD undef = .int .i64 (k : Nat) := hk.v 72 (by kernel_rfl)
            clear hk
            go_simp
            exact hK _ _ (Ext.refl _) (fun h => absurd h (by decide)) (fun d hd => by cases hd; rfl)
          · intro act W2 hk
            refine FlowG.does_intro rfl (fun Kq hK => ?_)
            have e73 : act.tmps[73]?.getD undef = .pointer (some ⟨g, k * 6, none⟩) := hk.v 73 (by kernel_rfl)
            have g0 := Ext.cell ((Ext.drew V1).trans (hk.early (.inr (by kernel_rfl)))) ((hcA.out) 0 _ rfl)
            rw [Nat.add_zero] at g0
            have g1 := Ext.cell ((Ext.drew V1).trans (hk.early (.inr (by kernel_rfl)))) ((hcA.out) 1 _ rfl)
            have g2 := Ext.cell ((Ext.drew V1).trans (hk.early (.inr (by kernel_rfl)))) ((hcA.out) 2 _ rfl)
            have g3 := Ext.cell ((Ext.drew V1).trans (hk.early (.inr (by kernel_rfl)))) ((hcA.out) 3 _ rfl)
            have g4 := Ext.cell ((Ext.drew V1).trans (hk.early (.inr (by kernel_rfl)))) ((hcA.out) 4 _ rfl)
            have g5 := Ext.cell ((Ext.drew V1).trans (hk.early (.inr (by kernel_rfl)))) ((hcA.out) 5 _ rfl)
            clear hk
            go_simp
            exact hK _ _ (Ext.refl _) (fun h => absurd h (by decide)) (fun d hd => by cases hd; rfl)
          · intro act W2 hk
            refine FlowG.does_intro rfl (fun Kq hK => ?_)
            have e61 : act.tmps[61]?.getD undef = .slice (some ⟨g, 0, none⟩) n cap := hk.v 61 (by kernel_rfl)
            have e62 : act.tmps[62]?.getD undef = .int .i64 (k : Nat) := hk.v 62 (by kernel_rfl)
            clear hk
            go_simp
            exact hK _ _ (Ext.refl _) (fun h => absurd h (by decide)) (fun d hd => by cases hd; rfl)
          · intro act W2 hk
            refine FlowG.does_intro rfl (fun Kq hK => ?_)
            have e75 : act.tmps[75]?.getD undef = .pointer (some ⟨g, k * 6, none⟩) := hk.v 75 (by kernel_rfl)
            have e70 : act.tmps[70]?.getD undef = .agg #[.string y.1.name, .string y.1.key, .int .i64 y.1.kind, .int .u64 y.1.num, .string y.1.text, .slice y.2.1 y.1.kids.length y.2.2] := hk.v 70 (by kernel_rfl)
            have kW := (hrow'.out).ext ((Ext.drew V1).trans (hk.early (.inl rfl)))
            obtain ⟨v0, v1, v2, v3, v4, v5, z0, z1, z2, z3, z4, z5⟩ := rowI_old (i := k) kW (by rw [hln.out]; omega)
            have hfr := kW.free
            have hst := Hd.mk (rowI_store (i := k) kW (by rw [hln.out]; omega) y)
            clear hk kW
            go_simp
            exact hK undef _ (grown_upd hst.out.2) (fun _ => hst.out.1) (fun d hd => by cases hd)
          · intro act W2 hk
            refine FlowG.does_intro rfl (fun Kq hK => ?_)
            have e63 : act.tmps[63]?.getD undef = .slice (some ⟨g, 0, none⟩) n cap := hk.v 63 (by kernel_rfl)
            have e65 : act.tmps[65]?.getD undef = .int .i64 (k2 : Nat) := hk.v 65 (by kernel_rfl)
            clear hk
            go_simp
            exact hK _ _ (Ext.refl _) (fun h => absurd h (by decide)) (fun d hd => by cases hd; rfl)
        · intro act V2 he
          have hgV := Hd.mk (grown_trans (grown_ext (Ext.drew V1)) he.ext)
          obtain ⟨aP, hG1, _⟩ := he.post
          have kV := Hd.mk hG1
          obtain ⟨us, hA, hF⟩ := he.out [61, 62, 63, 64, 65, 66, 67, 68, 69, 70, 71, 72, 73, 74, 75, 76] (by kernel_rfl)
          simp only [Flow.fillL, List.contains_cons, List.contains_nil, Nat.reduceBEq, Bool.or_false, Bool.false_or, Bool.or_true, Bool.true_or, ↓reduceIte, Nat.reduceAdd, Bool.false_eq_true] at hA
          subst hA
          have f76 : us 76 = .pointer (some ⟨g, k2 * 6, none⟩) := hF 76 (by simp)
          have f74 : us 74 = .agg #[.string x.1.name, .string x.1.key, .int .i64 x.1.kind, .int .u64 x.1.num, .string x.1.text, .slice x.2.1 x.1.kids.length x.2.2] := hF 74 (by simp)
          clear hF he hG1
          rw [f76]
          clear f76
          rw [f74]
          clear f74
          refine (show wpList _ _ _ (⟨none, .store 54 (.tmp 76) (.tmp 74), _, _, _, none⟩ :: []) _ _ from ?_)
          have hj2 : k2 < (((pre ++ P1) ++ x :: y :: (P3 ++ (Q ++ post))).set k y).length := by rw [List.length_set, hln.out]; omega
          obtain ⟨v0, v1, v2, v3, v4, v5, z0, z1, z2, z3, z4, z5⟩ := rowI_old (i := k2) kV.out hj2
          have hfr := kV.out.free
          have hst := rowI_store (i := k2) kV.out hj2 x
          rw [hsw.out] at hst
          replace hst := Hd.mk hst
          clear hj2
          go_wp2_with fail
          go_roundg (n - k2 + 1)
          case measure => have := hq2.out; have := hk2.out; omega
          case rel => exact ⟨k2, P1 ++ [y], P3, by have := hk2.out; omega, ⟨by omega⟩, by have h1 := hk2.out; refine congrArg (Value.int .i64) ?_; first | omega | (unfold wrap64; omega), ⟨by have h1 := hk.out; have h2 := hk2.out; simp; omega⟩, ⟨by rw [← hPP.out]; simp⟩, ⟨by simpa using hst.out.1⟩, ⟨grown_trans (grown_trans hgr.out hgV.out) (grown_upd hst.out.2)⟩⟩
    · have hge2 : ¬ (k : Int) < (i1 : Int) := by omega
      have hP2 : P2 = [] := List.eq_nil_of_length_eq_zero (by have := hk.out; have := hi1.out; omega)
      subst hP2
      have hP1 : P1 = P := by rw [← hPP.out]; simp
      subst hP1
      clear hPPl hge
      go_wp2_with fail
      refine bodyPost_ret (results_none rfl _ _ _) rfl ?_
      exact ⟨rfl, ⟨P1 ++ x :: Q, hfin.out.1, by simpa using hfin.out.2, by have := hsl.out; simp; omega, by simpa using hrow.out⟩, hgr.out⟩
end Go.Proofs.Ytgkgedjmnbjalaa
set_option linter.unusedSimpArgs false
namespace Go.Proofs.Ytgkgedjmnbjalaa
open Go.RowKit Go.Sort
def spTT (t : T) : SP := ⟨fun v w => ∃ c : List Value, v = .agg c.toArray ∧ RT (fun _ => True) w t c, fun _ _ _ h ⟨c, e, hr⟩ => ⟨c, e, hr.ext h⟩⟩
end Go.Proofs.Ytgkgedjmnbjalaa
set_option linter.unusedSimpArgs false
namespace Go.Proofs.Ytgkgedjmnbjalaa
open Go.RowKit Go.Sort
section
variable {ops : Array Oper} {rest : List Oper} {a : Act} {w : World} {Q : Exit → Act → World → Prop}
theorem wpl_slice_lo (s k d : Tmp) (p1 : TypeId) (p2 : String) (p3 : Array Edge) (A : Option Addr) (n c kk : Nat) (hs : a.tmps[s]?.getD undef = .slice A n c) (hk : a.tmps[k]?.getD undef = .int .i64 kk) (hkn : kk ≤ n) (hnc : n ≤ c)
    (h : wpList Try.prog ops Q rest (a.put (some d) (.slice A kk c)) w) :
    wpList Try.prog ops Q (⟨some d, .slice 52 (.tmp s) none (some (.tmp k)) none, p1, p2, p3, none⟩ :: rest) a w := by
  refine wpList_plain rfl fun K hK => ?_
  have h1 : kk ≤ c := Nat.le_trans hkn hnc
  have h2 : (kk : Int) ≤ (c : Int) := by omega
  cases A with
  | none =>
    go_simp
    exact hK _ _ h
  | some b =>
    go_simp
    exact hK _ _ (by simpa [Addr.add, Act.put] using h)
set_option maxRecDepth 100000 in
theorem wpl_slice_hi (s k d : Tmp) (p1 : TypeId) (p2 : String) (p3 : Array Edge) (A : Option Addr) (n c kk : Nat) (hs : a.tmps[s]?.getD undef = .slice A n c) (hk : a.tmps[k]?.getD undef = .int .i64 kk) (hkn : kk ≤ n) (hnc : n ≤ c)
    (h : wpList Try.prog ops Q rest (a.put (some d) (.slice (if c = kk then A else A.map (·.add (kk * 6))) (n - kk) (c - kk))) w) :
    wpList Try.prog ops Q (⟨some d, .slice 52 (.tmp s) (some (.tmp k)) none none, p1, p2, p3, none⟩ :: rest) a w := by
  refine wpList_plain rfl fun K hK => ?_
  have h1 : kk ≤ c := Nat.le_trans hkn hnc
  have h2 : (kk : Int) ≤ (n : Int) := by omega
  by_cases he : c = kk
  · subst he
    obtain rfl : n = c := by omega
    rw [if_pos rfl, Nat.sub_self] at h
    go_simp
    exact hK _ _ h
  · rw [if_neg he] at h
    cases A with
    | none =>
      go_simp
      exact hK _ _ h
    | some b =>
      go_simp
      exact hK _ _ h
end
def AccRow (B : Nat) (w : World) (v : Value) (acc : List T) : Prop := ∃ css : List (List Value), css.length = acc.length ∧ (∀ c ∈ css, c.length = 6) ∧ (∀ (i : Nat) k c, acc[i]? = some k → css[i]? = some c → RT (fun b => B ≤ b) w k c) ∧ w.ownsRow B 54 6 v acc.length css.flatten
theorem AccRow.nil (B : Nat) (w : World) : AccRow B w (.slice none 0 0) [] := ⟨[], rfl, by simp, by simp, rfl, .inl ⟨rfl, rfl⟩⟩
theorem AccRow.ext {B : Nat} {w w' : World} (hx : Ext w w') {v : Value} {acc : List T} (h : AccRow B w v acc) : AccRow B w' v acc := by
  obtain ⟨css, h1, h2, h3, h4⟩ := h
  exact ⟨css, h1, h2, fun i k c hi hc => (h3 i k c hi hc).ext hx, own_ext hx h4⟩
theorem AccRow.row {B : Nat} {w : World} {v : Value} {acc : List T} (h : AccRow B w v acc) (hl : acc.length ≤ 1048576) : ∃ A cap, v = .slice A acc.length cap ∧ RRow (fun b => B ≤ b) w A acc cap := by
  obtain ⟨css, h1, h2, h3, h4⟩ := h
  obtain ⟨A, cap, e, hr⟩ := rrow_of_own (S := fun b => B ≤ b) h1 h2 rfl hl h3 h4
  exact ⟨A, cap, e, hr.mono' fun b _ hb => by rcases hb with hb | hb <;> exact hb⟩
theorem own_mono {w : World} {base base' : Nat} {e : TypeId} {sz n : Nat} {v : Value} {xs : List Value} (hb : base ≤ base') (h : w.ownsRow base' e sz v n xs) : w.ownsRow base e sz v n xs := by
  obtain ⟨h1, h2⟩ := h
  refine ⟨h1, ?_⟩
  rcases h2 with h2 | ⟨g, cap, cur, hv, hb2, h3⟩
  · exact .inl h2
  · exact .inr ⟨g, cap, cur, hv, Nat.le_trans hb hb2, h3⟩
theorem AccRow.put {B B' : Nat} {w w' : World} {v' : Value} {acc : List T} {x : T} {cx : List Value} {p : Nat} {css : List (List Value)} (hl : css.length = acc.length) (h6 : ∀ c ∈ css, c.length = 6) (hr : ∀ (i : Nat) k c, acc[i]? = some k → css[i]? = some c → RT (fun b => B ≤ b) w k c)
    (hx : RT (fun b => B ≤ b) w' x cx) (hp : p ≤ acc.length) (hw : Ext w w') (hB : B ≤ B') (h : w'.ownsRow B' 54 6 v' (acc.length + 1) (css.flatten.take (p * 6) ++ cx ++ css.flatten.drop (p * 6))) : AccRow B w' v' (acc.take p ++ x :: acc.drop p) := by
  have hf := flatten_take css h6 p
  refine ⟨css.take p ++ cx :: css.drop p, by simp [hl], fun c hc => ?_, fun i k c hi hc => ?_, ?_⟩
  · rcases List.mem_append.1 hc with hc | hc
    · exact h6 c (List.mem_of_mem_take hc)
    · rcases List.mem_cons.1 hc with rfl | hc
      · exact hx.len
      · exact h6 c (List.mem_of_mem_drop hc)
  · have ht : (acc.take p).length = (css.take p).length := by rw [List.length_take, List.length_take, hl]
    by_cases hip : i < (acc.take p).length
    · rw [List.getElem?_append_left hip, List.getElem?_take] at hi
      rw [List.getElem?_append_left (by rw [← ht]; exact hip), List.getElem?_take] at hc
      split at hi
      · rename_i hlt; rw [if_pos hlt] at hc; exact (hr i k c hi hc).ext hw
      · cases hi
    · rw [List.getElem?_append_right (by omega)] at hi hc
      rw [← ht] at hc
      cases hq : i - (acc.take p).length with
      | zero => rw [hq] at hi hc; simp at hi hc; subst hi hc; exact hx
      | succ q =>
        rw [hq] at hi hc
        rw [List.getElem?_cons_succ, List.getElem?_drop] at hi hc
        exact (hr _ k c hi hc).ext hw
  · have he : (acc.take p ++ x :: acc.drop p).length = acc.length + 1 := by rw [List.length_append, List.length_take, List.length_cons, List.length_drop]; omega
    rw [he, List.flatten_append, List.flatten_cons, ← hf.1, ← hf.2, ← List.append_assoc]
    exact own_mono hB h
def SortPost (t : T) (w w' : World) (v : Value) : Prop := ∃ c : List Value, v = .agg c.toArray ∧ RT (fun b => w.heap.size ≤ b) w' (sortT t) c ∧ Ext w w'
set_option maxRecDepth 100000 in
set_option maxHeartbeats 4000000 in
theorem ref_sorted : ∀ (N : Nat) (t : T) (S : Nat → Prop) (w : World) (c : List Value), t.deep ≤ N → t.size ≤ 1048576 → RT S w t c → Calls Try.prog 58 #[.agg c.toArray] w (Ret (SortPost t w))
  | 0, t, S, w, c, hn, _, _ => by rw [t.deep_eq] at hn; omega
  | N + 1, t, S, w, c, hn, hsz, h => by
    obtain ⟨K, kc, rfl, hrow⟩ := h.row
    have kr1 := Hd.mk hrow
    have hlen := hrow.len
    replace hn := Hd.mk hn
    replace hsz := Hd.mk hsz
    have ih := Hd.mk (ref_sorted N)
    clear h hrow
    obtain ⟨res, hres⟩ : ∃ l, l = sortL [] t.kids := ⟨_, rfl⟩
    replace hres := Hd.mk hres
    simp only [cT]
    go_enter Try.func58, Try.ntmps58
    go_wp2_with fail
    have kx := Hd.mk ((Ext.alloc w (.cells #[.string t.name, .string t.key, .int .i64 t.kind, .int .u64 t.num, .string t.text, .slice K t.kids.length kc] 54)).trans (Ext.alloc _ (.cells #[.string ⟨#[]⟩, .string ⟨#[]⟩, .int .i64 0, .int .u64 0, .string ⟨#[]⟩, .slice none 0 0] 54)))
    have kA := Hd.mk ((Blk.new w #[.string t.name, .string t.key, .int .i64 t.kind, .int .u64 t.num, .string t.text, .slice K t.kids.length kc] 54).alloc (.cells #[.string ⟨#[]⟩, .string ⟨#[]⟩, .int .i64 0, .int .u64 0, .string ⟨#[]⟩, .slice none 0 0] 54))
    have kR := Hd.mk (Blk.new2 w (.cells #[.string t.name, .string t.key, .int .i64 t.kind, .int .u64 t.num, .string t.text, .slice K t.kids.length kc] 54) #[.string ⟨#[]⟩, .string ⟨#[]⟩, .int .i64 0, .int .u64 0, .string ⟨#[]⟩, .slice none 0 0] 54)
    have hpW := Hd.mk (show w.heap.size + 1 < ((w.alloc _).alloc _).heap.size from kR.out.lt)
    generalize (w.alloc _).alloc _ = W at *
    generalize hp : w.heap.size = p at *
    replace hp := Hd.mk hp
    go_loopg [3, 4] (t.kids.length + 1) (fun q s i wr => ∃ j : Nat, j ≤ t.kids.length ∧ Hd (q = t.kids.length + 1 - j) ∧ i = .int .i64 j ∧ ∃ acc : List T, Hd (acc.length = j) ∧ Hd (sortL acc (t.kids.drop j) = res) ∧ Hd (AccRow (p + 2) wr s acc) ∧ Hd (Blk wr p [.string t.name, .string t.key, .int .i64 t.kind, .int .u64 t.num, .string t.text, .slice K t.kids.length kc] 54) ∧ Hd (Blk wr (p + 1) [.string ⟨#[]⟩, .string ⟨#[]⟩, .int .i64 0, .int .u64 0, .string ⟨#[]⟩, .slice none 0 0] 54) ∧ Hd (Ext w wr) ∧ Hd (Ext W wr))
    case atStart => exact ⟨0, by omega, ⟨by omega⟩, rfl, [], ⟨rfl⟩, ⟨hres.out.symm⟩, ⟨AccRow.nil _ _⟩, kA, kR, kx, ⟨Ext.refl _⟩⟩
    case round =>
    clear kA kR kx
    obtain ⟨j, hj, hq, rfl, acc, hal, hI, hacc, kA, kR, kx, kxW⟩ := hrel
    obtain ⟨A3, cap3, rfl, hrow3⟩ := hacc.out.row (by rw [hal.out]; omega)
    replace hrow3 := Hd.mk hrow3
    have gA := kA.out.cell
    by_cases hlt : j < t.kids.length
    · have hx1 := List.getElem?_eq_getElem hlt
      have hdrop := Hd.mk (List.drop_eq_getElem_cons hlt)
      generalize t.kids[j] = x at hx1 hdrop
      obtain ⟨b2, o2, ck, rfl, _, hrk, hck⟩ := kr1.out.kid j x hx1
      have hdx : x.deep ≤ N := by have := kid_deep hx1; have := hn.out; omega
      have hsx : x.size ≤ 1048576 := by have := kid_size hx1; have := hsz.out; omega
      obtain ⟨K5, c5, rfl, _⟩ := hrk.row
      simp only [cT] at hck hrk
      have hrec := ih.out x S _ _ hdx hsx (hrk.ext kx.out)
      have hsx2 := Hd.mk (sortT_size x)
      generalize hxs : sortT x = x1 at *
      replace hxs := Hd.mk hxs
      obtain ⟨e0, e1, e2, e3, e4, e5⟩ := six kx.out hck
      have hlt0 : (j : Int) < (t.kids.length : Int) := by omega
      replace hdx := Hd.mk hdx
      replace hsx := Hd.mk hsx
      clear hx1 hck hrk
      go_wp2_with fail
      refine Calls.mono hrec ?_
      rintro e w5 ⟨_, rfl, c5', rfl, hr5, hx⟩
      rw [hxs.out] at hr5
      obtain ⟨K4, c4, rfl, _⟩ := hr5.row
      have kr5 := Hd.mk (hr5.mono (S' := fun b => p + 2 ≤ b) (fun b _ hb => by have := kxW.out.size; have := hpW.out; omega))
      simp only [cT] at kr5 ⊢
      clear hrec hr5 gA e0 e1 e2 e3 e4 e5
      go_wp2_with fail
      have hxA := hx.trans (Ext.alloc w5 (.cells #[.string x1.name, .string x1.key, .int .i64 x1.kind, .int .u64 x1.num, .string x1.text, .slice K4 x1.kids.length c4] 54))
      have kG := Hd.mk (Blk.new w5 #[.string x1.name, .string x1.key, .int .i64 x1.kind, .int .u64 x1.num, .string x1.text, .slice K4 x1.kids.length c4] 54)
      replace kr5 := Hd.mk (kr5.out.ext (Ext.alloc w5 (.cells #[.string x1.name, .string x1.key, .int .i64 x1.kind, .int .u64 x1.num, .string x1.text, .slice K4 x1.kids.length c4] 54)))
      replace kA := Hd.mk (kA.out.ext hxA)
      replace kR := Hd.mk (kR.out.ext hxA)
      replace kx := Hd.mk (kx.out.trans hxA)
      replace kxW := Hd.mk (kxW.out.trans hxA)
      replace hacc := Hd.mk (hacc.out.ext hxA)
      replace hrow3 := Hd.mk (hrow3.out.ext hxA)
      clear hx hxA
      generalize w5.heap.size = g at *
      generalize w5.alloc _ = W5 at *
      go_loopg [6] (acc.length + 1) (fun q s wq => ∃ pp : Nat, pp ≤ acc.length ∧ Hd (q = pp + 1) ∧ s = .int .i64 pp ∧ Hd (∀ (i : Nat) e, pp ≤ i → acc[i]? = some e → lessT x1 e = true) ∧ Hd (Ext W5 wq))
      case atStart => exact ⟨acc.length, Nat.le_refl _, ⟨rfl⟩, rfl, ⟨fun i e hi he => by have := (List.getElem?_eq_some_iff.1 he).1; omega⟩, ⟨Ext.refl _⟩⟩
      case round =>
      obtain ⟨pp, hpp, hq2, rfl, hab, kx5⟩ := hrel
      replace kA := Hd.mk (kA.out.ext kx5.out)
      replace kR := Hd.mk (kR.out.ext kx5.out)
      replace kG := Hd.mk (kG.out.ext kx5.out)
      replace kr5 := Hd.mk (kr5.out.ext kx5.out)
      replace hacc := Hd.mk (hacc.out.ext kx5.out)
      replace hrow3 := Hd.mk (hrow3.out.ext kx5.out)
      replace kx := Hd.mk (kx.out.trans kx5.out)
      replace kxW := Hd.mk (kxW.out.trans kx5.out)
      generalize wr = V0 at *
      by_cases hp0 : pp = 0
      · have hp9 := Hd.mk hp0
        have hbel : Hd (∀ y, 0 < pp → acc[pp - 1]? = some y → lessT x1 y = false) := ⟨fun y h _ => by omega⟩
        clear hp0
        go_wp2_with fail
        refine Flow.wp_region_flow_l (fun qq => match qq with
          | 23 => SP.eq (.int .i64 (pp : Nat))
          | 24 => SP.eq (.bool false)
          | 25 => SP.eq (.bool false)
          | 26 => SP.eq (undef)
          | 27 => SP.eq (undef)
          | 28 => SP.eq (undef)
          | 29 => SP.eq (undef)
          | 30 => SP.eq (undef)
          | 31 => SP.eq (undef)
          | 32 => SP.eq (undef)
          | 33 => SP.eq (.bool false)
          | _ => SP.any) 11 (by kernel_rfl) 54 rfl (by kernel_rfl) ?_ ?_
        · skip
          refine ⟨?_, ?_, ?_, ?_, ?_, ?_, ?_, ?_, ?_, ?_, ?_, trivial⟩
          · intro act W2 hk
            refine Flow.does_intro rfl (fun Kq hK => ?_)
            have e6 : act.tmps[6]?.getD undef = .int .i64 (pp : Nat) := hk.o 6 (by kernel_rfl)
            clear hk
            go_simp
            exact hK _ _ (Ext.refl _) (fun d hd => by cases hd; rfl)
          · intro act W2 hk
            refine Flow.does_intro rfl (fun Kq hK => ?_)
            have e23 : act.tmps[23]?.getD undef = .int .i64 (pp : Nat) := hk.v 23 (by kernel_rfl)
            clear hk
            go_simp
            exact hK _ _ (Ext.refl _) (fun d hd => by cases hd; have h1 := hp9.out; simp [SP.eq]; omega)
          · intro act W2 hk
            refine Flow.does_intro rfl (fun Kq hK => ?_)
            have e24 : act.tmps[24]?.getD undef = .bool false := hk.v 24 (by kernel_rfl)
            clear hk
            go_simp
            exact hK _ _ (Ext.refl _) (fun d hd => by cases hd; rfl)
          · intro act W2 hk
            have eg : act.tmps[25]?.getD undef = .bool false := hk.v 25 (by kernel_rfl)
            exact Flow.does_skip (wanted_no rfl rfl eg) (fun d hd => by cases hd; rfl)
          · intro act W2 hk
            have eg : act.tmps[25]?.getD undef = .bool false := hk.v 25 (by kernel_rfl)
            exact Flow.does_skip (wanted_no rfl rfl eg) (fun d hd => by cases hd; rfl)
          · intro act W2 hk
            have eg : act.tmps[25]?.getD undef = .bool false := hk.v 25 (by kernel_rfl)
            exact Flow.does_skip (wanted_no rfl rfl eg) (fun d hd => by cases hd; rfl)
          · intro act W2 hk
            have eg : act.tmps[25]?.getD undef = .bool false := hk.v 25 (by kernel_rfl)
            exact Flow.does_skip (wanted_no rfl rfl eg) (fun d hd => by cases hd; rfl)
          · intro act W2 hk
            have eg : act.tmps[25]?.getD undef = .bool false := hk.v 25 (by kernel_rfl)
            exact Flow.does_skip (wanted_no rfl rfl eg) (fun d hd => by cases hd; rfl)
          · intro act W2 hk
            have eg : act.tmps[25]?.getD undef = .bool false := hk.v 25 (by kernel_rfl)
            exact Flow.does_skip (wanted_no rfl rfl eg) (fun d hd => by cases hd; rfl)
          · intro act W2 hk
            have eg : act.tmps[25]?.getD undef = .bool false := hk.v 25 (by kernel_rfl)
            exact Flow.does_skip (wanted_no rfl rfl eg) (fun d hd => by cases hd; rfl)
          · intro act W2 hk
            refine Flow.does_intro rfl (fun Kq hK => ?_)
            have e25 : act.tmps[25]?.getD undef = .bool false := hk.v 25 (by kernel_rfl)
            clear hk
            go_simp
            exact hK _ _ (Ext.refl _) (fun d hd => by cases hd; rfl)
        · intro act W2 he
          have hxW2 := Hd.mk ((Ext.drew V0).trans he.ext)
          obtain ⟨us, hA, hF⟩ := he.out [23, 24, 25, 26, 27, 28, 29, 30, 31, 32, 33] (by kernel_rfl)
          simp only [Flow.fillL, List.contains_cons, List.contains_nil, Nat.reduceBEq, Bool.or_false, Bool.false_or, Bool.or_true, Bool.true_or, ↓reduceIte, Nat.reduceAdd, Bool.false_eq_true] at hA
          subst hA
          have f33 : us 33 = .bool false := hF 33 (by simp)
          clear hF he
          rw [f33]
          clear f33
          refine (show wpList _ _ _ [] _ _ from ?_)
          replace kA := Hd.mk (kA.out.ext hxW2.out)
          replace kR := Hd.mk (kR.out.ext hxW2.out)
          replace kG := Hd.mk (kG.out.ext hxW2.out)
          replace kr5 := Hd.mk (kr5.out.ext hxW2.out)
          replace hacc := Hd.mk (hacc.out.ext hxW2.out)
          replace hrow3 := Hd.mk (hrow3.out.ext hxW2.out)
          replace kx := Hd.mk (kx.out.trans hxW2.out)
          replace kxW := Hd.mk (kxW.out.trans hxW2.out)
          replace kx5 := Hd.mk (kx5.out.trans hxW2.out)
          clear hxW2
          generalize W2 = V2 at *
          have hac : acc.length < 1048576 := by have := hal.out; omega
          obtain ⟨css, q1, q2, q3, q4⟩ := hacc.out
          have kfl := Hd.mk (flatten_len css q2)
          have kone := Hd.mk (all_one q1 q3)
          have hcap3 := hrow3.out.cap
          have hnul3 := Hd.mk hrow3.out.nul
          have hsrc : Hd (∀ W, Ext V2 W → ∀ ad, A3 = some ad → ∀ j u, css.flatten[j]? = some u → W.cell? (ad.add j) = some u) := ⟨fun W hW ad had j u hj => by
            obtain ⟨A', cap', e', _, _, h5⟩ := own_slice q4
            have hj2 := (List.getElem?_eq_some_iff.1 hj).1
            rw [flatten_len css q2, q1] at hj2
            obtain ⟨g2, sp2, eA, _, hb2⟩ := h5 (by omega)
            simp only [Value.slice.injEq] at e'
            obtain ⟨rfl, _, _⟩ := e'
            cases had.symm.trans eA
            rw [addr_add, Nat.zero_add]
            refine Ext.cell hW ?_
            rw [hb2.cell, List.getElem?_append_left (List.getElem?_eq_some_iff.1 hj).1]
            exact hj⟩
          replace q1 := Hd.mk q1
          replace q2 := Hd.mk q2
          replace q3 := Hd.mk q3
          clear q4
          have hbase := Hd.mk (show p + 2 ≤ V2.heap.size by have := kxW.out.size; have := hpW.out; omega)
          have hins := Hd.mk (insSt_at (x := x1) (l := acc) (p := pp) hpp hab.out hbel.out)
          clear hbel hab hq2
          go_wp2_with ((with_reducible refine stop_at (.slice 52 (.tmp 37) none (some (.tmp 38)) none) ?_))
          refine Stop.mk ?_
          refine wpl_slice_lo 37 38 39 _ _ _ A3 acc.length cap3 pp rfl rfl hpp hcap3 ?_
          simp only [Act.put, List.setIfInBounds_toArray, List.set_cons_succ, List.set_cons_zero]
          refine wpl_append_src 36 39 40 _ _ _ V2.heap.size (.slice none 0 0) 0 [] rfl ⟨rfl, .inl ⟨rfl, rfl⟩⟩ A3 pp cap3 (css.flatten.take (pp * 6)) rfl (fun h => by have := hnul3.out h; omega) (by rw [List.length_take, kfl.out, q1.out]; omega) (fun ad had j u hj => by
            rw [List.getElem?_take] at hj
            split at hj
            · exact hsrc.out _ (Ext.refl _) ad had j u hj
            · cases hj) (all_take kone.out _).1 (by omega) (Nat.le_refl _) ?_
          intro v1 w6 ho1 hb1
          rw [Nat.zero_add, List.nil_append] at ho1
          have ho1 := Hd.mk ho1
          have hb1 := Hd.mk (show Ext V2 w6 from hb1)
          replace kG := Hd.mk (kG.out.ext hb1.out)
          have gG := kG.out.cell
          go_wp2_with ((with_reducible refine stop_at (.call { callee := .builtin .append, args := #[.tmp 41, .tmp 43], argTypes := #[52, 52] }) ?_))
          refine Stop.mk ?_
          have hxB := Ext.alloc w6 (.cells #[.string x1.name, .string x1.key, .int .i64 x1.kind, .int .u64 x1.num, .string x1.text, .slice K4 x1.kids.length c4] 54)
          have kB := Hd.mk (Blk.new w6 #[.string x1.name, .string x1.key, .int .i64 x1.kind, .int .u64 x1.num, .string x1.text, .slice K4 x1.kids.length c4] 54)
          replace ho1 := Hd.mk (own_ext hxB ho1.out)
          replace hb1 := Hd.mk (hb1.out.trans hxB)
          clear gG hxB
          generalize w6.heap.size = gb at *
          generalize w6.alloc _ = V3 at *
          refine wpl_append_src 41 43 44 _ _ _ V2.heap.size v1 pp _ rfl ho1.out (some ⟨gb, 0, none⟩) 1 1 [.string x1.name, .string x1.key, .int .i64 x1.kind, .int .u64 x1.num, .string x1.text, .slice K4 x1.kids.length c4] rfl (fun h => by cases h) rfl (fun ad had j u hj => by cases had; rw [addr_add, Nat.zero_add, kB.out.cell]; exact hj) (by rfl) (by omega) hb1.out.size ?_
          intro v2 w7 ho2 hb2
          have ho2 := Hd.mk ho2
          have hb2 := Hd.mk (show Ext V2 w7 from Below.trans hb1.out hb2)
          go_wp2_with ((with_reducible refine stop_at (.slice 52 (.tmp 46) (some (.tmp 47)) none none) ?_))
          refine Stop.mk ?_
          refine wpl_slice_hi 46 47 48 _ _ _ A3 acc.length cap3 pp rfl rfl hpp hcap3 ?_
          simp only [Act.put, List.setIfInBounds_toArray, List.set_cons_succ, List.set_cons_zero]
          refine wpl_append_src 45 48 49 _ _ _ V2.heap.size v2 (pp + 1) _ rfl ho2.out (if cap3 = pp then A3 else Option.map (·.add (pp * 6)) A3) (acc.length - pp) (cap3 - pp) (css.flatten.drop (pp * 6)) rfl (fun h => by
            by_cases he : cap3 = pp
            · omega
            · rw [if_neg he] at h
              have h0 : A3 = none := by
                revert h
                generalize A3 = A9
                cases A9 with
                | none => intro _; rfl
                | some _ => intro h; cases h
              have := hnul3.out h0
              omega) (by rw [List.length_drop, kfl.out, q1.out]; omega) (fun ad had j u hj => by
            rw [List.getElem?_drop] at hj
            have hj2 := (List.getElem?_eq_some_iff.1 hj).1
            rw [kfl.out, q1.out] at hj2
            rw [if_neg (by omega)] at had
            obtain ⟨a9, ha9, had2⟩ := Option.map_eq_some_iff.1 had
            subst had2
            rw [addr_add_add]
            exact hsrc.out _ hb2.out a9 ha9 _ u hj) (all_take kone.out _).2 (by omega) hb2.out.size ?_
          intro v3 w8 ho3 hb3
          have hb3 := Hd.mk (show Ext V2 w8 from Below.trans hb2.out hb3)
          have hacc3 := Hd.mk (AccRow.put q1.out q2.out q3.out (kr5.out.ext hb3.out) hpp hb3.out hbase.out (by have := ho3; rw [show pp + 1 + (acc.length - pp) = acc.length + 1 by omega] at this; exact this))
          rw [← hins.out] at hacc3
          have hlast := Hd.mk (insSt_len x1 acc)
          have hI2 : Hd (sortL (insSt x1 acc) (t.kids.drop (j + 1)) = res) := ⟨by rw [← hI.out, hdrop.out, sortL_cons, hxs.out]⟩
          replace kA := Hd.mk (kA.out.ext hb3.out)
          replace kR := Hd.mk (kR.out.ext hb3.out)
          replace kx := Hd.mk (kx.out.trans hb3.out)
          replace kxW := Hd.mk (kxW.out.trans hb3.out)
          clear ho1 ho2 ho3 hb1 hb2 hb3 hsrc kG kB q1 q2 q3 kfl kone hins hI hdrop hxs hrow3 hacc
          generalize insSt x1 acc = acc2 at *
          generalize Value.slice (if cap3 = pp then _ else _) _ _ = v48
          go_wp2_with fail
          go_roundg (t.kids.length + 1 - (j + 1))
          case measure => have := hq.out; omega
          case rel => exact ⟨j + 1, by omega, ⟨rfl⟩, by go_num, acc2, ⟨by rw [hlast.out, hal.out]⟩, hI2, hacc3, kA, kR, kx, kxW⟩
      · have hy0 : pp - 1 < acc.length := by omega
        have hy := List.getElem?_eq_getElem hy0
        generalize acc[pp - 1] = y at hy
        obtain ⟨b3, o3, dk, rfl, _, hrd, hdk⟩ := hrow3.out.kid (pp - 1) y hy
        obtain ⟨K6, c6, rfl, _⟩ := hrd.row
        have kcy := Hd.mk (fun (q : Nat) v hv => hdk q v hv)
        have hless := Hd.mk (fun w => ref_less x1 y K4 K6 x1.kids.length c4 y.kids.length c6 w)
        simp only [cT] at kcy hless
        obtain ⟨p2, hp2⟩ : ∃ p2, pp = p2 + 1 := ⟨pp - 1, by omega⟩
        have hp9 := Hd.mk hp2
        rw [show pp - 1 = p2 by omega] at hy hy0 kcy
        replace hy := Hd.mk hy
        have hp3 := Hd.mk (show p2 < 1048576 by have := hrow3.out.len; omega)
        clear hrd hdk hp0 hp2
        go_wp2_with fail
        cases hle : lessT x1 y with
        | true =>
          refine Flow.wp_region_flow_l (fun qq => match qq with
            | 23 => SP.eq (.int .i64 (pp : Nat))
            | 24 => SP.eq (.bool true)
            | 25 => SP.eq (.bool true)
            | 26 => SP.eq (.agg #[.string x1.name, .string x1.key, .int .i64 x1.kind, .int .u64 x1.num, .string x1.text, .slice K4 x1.kids.length c4])
            | 27 => SP.eq (.slice (some ⟨b3, o3, none⟩) acc.length cap3)
            | 28 => SP.eq (.int .i64 (pp : Nat))
            | 29 => SP.eq (.int .i64 (p2 : Nat))
            | 30 => SP.eq (.pointer (some ⟨b3, o3 + p2 * 6, none⟩))
            | 31 => SP.eq (.agg #[.string y.name, .string y.key, .int .i64 y.kind, .int .u64 y.num, .string y.text, .slice K6 y.kids.length c6])
            | 32 => SP.eq (.bool true)
            | 33 => SP.eq (.bool true)
            | _ => SP.any) 11 (by kernel_rfl) 54 rfl (by kernel_rfl) ?_ ?_
          · skip
            refine ⟨?_, ?_, ?_, ?_, ?_, ?_, ?_, ?_, ?_, ?_, ?_, trivial⟩
            · intro act W2 hk
              refine Flow.does_intro rfl (fun Kq hK => ?_)
              have e6 : act.tmps[6]?.getD undef = .int .i64 (pp : Nat) := hk.o 6 (by kernel_rfl)
              clear hk
              go_simp
              exact hK _ _ (Ext.refl _) (fun d hd => by cases hd; rfl)
            · intro act W2 hk
              refine Flow.does_intro rfl (fun Kq hK => ?_)
              have e23 : act.tmps[23]?.getD undef = .int .i64 (pp : Nat) := hk.v 23 (by kernel_rfl)
              clear hk
              go_simp
              exact hK _ _ (Ext.refl _) (fun d hd => by cases hd; have h1 := hp9.out; simp [SP.eq]; omega)
            · intro act W2 hk
              refine Flow.does_intro rfl (fun Kq hK => ?_)
              have e24 : act.tmps[24]?.getD undef = .bool true := hk.v 24 (by kernel_rfl)
              clear hk
              go_simp
              exact hK _ _ (Ext.refl _) (fun d hd => by cases hd; rfl)
            · intro act W2 hk
              have eg : act.tmps[25]?.getD undef = .bool true := hk.v 25 (by kernel_rfl)
              refine Flow.does_intro (wanted_yes rfl rfl eg) (fun Kq hK => ?_)
              clear eg
              have e5 : act.tmps[5]?.getD undef = .pointer (some ⟨g, 0, none⟩) := hk.o 5 (by kernel_rfl)
              have g := ((kG.out).ext ((Ext.drew V0).trans hk.ext)).cell
              clear hk
              go_simp
              exact hK _ _ (Ext.refl _) (fun d hd => by cases hd; rfl)
            · intro act W2 hk
              have eg : act.tmps[25]?.getD undef = .bool true := hk.v 25 (by kernel_rfl)
              refine Flow.does_intro (wanted_yes rfl rfl eg) (fun Kq hK => ?_)
              clear eg
              have e3 : act.tmps[3]?.getD undef = .slice (some ⟨b3, o3, none⟩) acc.length cap3 := hk.o 3 (by kernel_rfl)
              clear hk
              go_simp
              exact hK _ _ (Ext.refl _) (fun d hd => by cases hd; rfl)
            · intro act W2 hk
              have eg : act.tmps[25]?.getD undef = .bool true := hk.v 25 (by kernel_rfl)
              refine Flow.does_intro (wanted_yes rfl rfl eg) (fun Kq hK => ?_)
              clear eg
              have e6 : act.tmps[6]?.getD undef = .int .i64 (pp : Nat) := hk.o 6 (by kernel_rfl)
              clear hk
              go_simp
              exact hK _ _ (Ext.refl _) (fun d hd => by cases hd; rfl)
            · intro act W2 hk
              have eg : act.tmps[25]?.getD undef = .bool true := hk.v 25 (by kernel_rfl)
              refine Flow.does_intro (wanted_yes rfl rfl eg) (fun Kq hK => ?_)
              clear eg
              have e28 : act.tmps[28]?.getD undef = .int .i64 (pp : Nat) := hk.v 28 (by kernel_rfl)
              clear hk
              go_simp
              exact hK _ _ (Ext.refl _) (fun d hd => by cases hd; have h1 := hp9.out; have h2 := hp3.out; simp [SP.eq]; first | omega | (rw [IntKind.wrap_i64]; omega))
            · intro act W2 hk
              have eg : act.tmps[25]?.getD undef = .bool true := hk.v 25 (by kernel_rfl)
              refine Flow.does_intro (wanted_yes rfl rfl eg) (fun Kq hK => ?_)
              clear eg
              have e27 : act.tmps[27]?.getD undef = .slice (some ⟨b3, o3, none⟩) acc.length cap3 := hk.v 27 (by kernel_rfl)
              have e29 : act.tmps[29]?.getD undef = .int .i64 (p2 : Nat) := hk.v 29 (by kernel_rfl)
              clear hk
              go_simp
              exact hK _ _ (Ext.refl _) (fun d hd => by cases hd; rfl)
            · intro act W2 hk
              have eg : act.tmps[25]?.getD undef = .bool true := hk.v 25 (by kernel_rfl)
              refine Flow.does_intro (wanted_yes rfl rfl eg) (fun Kq hK => ?_)
              clear eg
              have e30 : act.tmps[30]?.getD undef = .pointer (some ⟨b3, o3 + p2 * 6, none⟩) := hk.v 30 (by kernel_rfl)
              have g0 := Ext.cell ((Ext.drew V0).trans hk.ext) (((fun q v hv => Ext.cell (Ext.refl _) (kcy.out q v hv))) 0 _ rfl)
              rw [Nat.add_zero] at g0
              have g1 := Ext.cell ((Ext.drew V0).trans hk.ext) (((fun q v hv => Ext.cell (Ext.refl _) (kcy.out q v hv))) 1 _ rfl)
              have g2 := Ext.cell ((Ext.drew V0).trans hk.ext) (((fun q v hv => Ext.cell (Ext.refl _) (kcy.out q v hv))) 2 _ rfl)
              have g3 := Ext.cell ((Ext.drew V0).trans hk.ext) (((fun q v hv => Ext.cell (Ext.refl _) (kcy.out q v hv))) 3 _ rfl)
              have g4 := Ext.cell ((Ext.drew V0).trans hk.ext) (((fun q v hv => Ext.cell (Ext.refl _) (kcy.out q v hv))) 4 _ rfl)
              have g5 := Ext.cell ((Ext.drew V0).trans hk.ext) (((fun q v hv => Ext.cell (Ext.refl _) (kcy.out q v hv))) 5 _ rfl)
              clear hk
              go_simp
              exact hK _ _ (Ext.refl _) (fun d hd => by cases hd; rfl)
            · intro act W2 hk
              have eg : act.tmps[25]?.getD undef = .bool true := hk.v 25 (by kernel_rfl)
              refine Flow.does_intro (wanted_yes rfl rfl eg) (fun Kq hK => ?_)
              clear eg
              have e26 : act.tmps[26]?.getD undef = .agg #[.string x1.name, .string x1.key, .int .i64 x1.kind, .int .u64 x1.num, .string x1.text, .slice K4 x1.kids.length c4] := hk.v 26 (by kernel_rfl)
              have e31 : act.tmps[31]?.getD undef = .agg #[.string y.name, .string y.key, .int .i64 y.kind, .int .u64 y.num, .string y.text, .slice K6 y.kids.length c6] := hk.v 31 (by kernel_rfl)
              clear hk
              go_simp
              refine Calls.mono (hless.out _) ?_
              rintro e W3 ⟨rfl, hx⟩
              exact hK _ _ hx (fun d hd => by cases hd; exact congrArg Value.bool hle)
            · intro act W2 hk
              refine Flow.does_intro rfl (fun Kq hK => ?_)
              have e25 : act.tmps[25]?.getD undef = .bool true := hk.v 25 (by kernel_rfl)
              have e32 : act.tmps[32]?.getD undef = .bool true := hk.v 32 (by kernel_rfl)
              clear hk
              go_simp
              exact hK _ _ (Ext.refl _) (fun d hd => by cases hd; rfl)
          · intro act W2 he
            have hxW2 := Hd.mk ((Ext.drew V0).trans he.ext)
            obtain ⟨us, hA, hF⟩ := he.out [23, 24, 25, 26, 27, 28, 29, 30, 31, 32, 33] (by kernel_rfl)
            simp only [Flow.fillL, List.contains_cons, List.contains_nil, Nat.reduceBEq, Bool.or_false, Bool.false_or, Bool.or_true, Bool.true_or, ↓reduceIte, Nat.reduceAdd, Bool.false_eq_true] at hA
            subst hA
            have f33 : us 33 = .bool true := hF 33 (by simp)
            clear hF he
            rw [f33]
            clear f33
            refine (show wpList _ _ _ [] _ _ from ?_)
            have hab2 : Hd (∀ (i : Nat) e, p2 ≤ i → acc[i]? = some e → lessT x1 e = true) := by
              refine ⟨fun i e hi he => ?_⟩
              by_cases hi2 : i = p2
              · subst hi2; rw [hy.out] at he; cases he; exact hle
              · exact hab.out i e (by have := hp9.out; omega) he
            go_wp2_with fail
            go_roundg (p2 + 1)
            case measure => have := hq2.out; have := hp9.out; omega
            case rel => exact ⟨p2, by have := hp9.out; omega, ⟨rfl⟩, by have h1 := hp9.out; have h2 := hp3.out; refine congrArg (Value.int .i64) ?_; unfold wrap64; omega, hab2, ⟨kx5.out.trans hxW2.out⟩⟩
        | false =>
          have hbel : Hd (∀ z, 0 < pp → acc[pp - 1]? = some z → lessT x1 z = false) := ⟨fun z h hz => by rw [show pp - 1 = p2 by have := hp9.out; omega, hy.out] at hz; cases hz; exact hle⟩
          refine Flow.wp_region_flow_l (fun qq => match qq with
            | 23 => SP.eq (.int .i64 (pp : Nat))
            | 24 => SP.eq (.bool true)
            | 25 => SP.eq (.bool true)
            | 26 => SP.eq (.agg #[.string x1.name, .string x1.key, .int .i64 x1.kind, .int .u64 x1.num, .string x1.text, .slice K4 x1.kids.length c4])
            | 27 => SP.eq (.slice (some ⟨b3, o3, none⟩) acc.length cap3)
            | 28 => SP.eq (.int .i64 (pp : Nat))
            | 29 => SP.eq (.int .i64 (p2 : Nat))
            | 30 => SP.eq (.pointer (some ⟨b3, o3 + p2 * 6, none⟩))
            | 31 => SP.eq (.agg #[.string y.name, .string y.key, .int .i64 y.kind, .int .u64 y.num, .string y.text, .slice K6 y.kids.length c6])
            | 32 => SP.eq (.bool false)
            | 33 => SP.eq (.bool false)
            | _ => SP.any) 11 (by kernel_rfl) 54 rfl (by kernel_rfl) ?_ ?_
          · skip
            refine ⟨?_, ?_, ?_, ?_, ?_, ?_, ?_, ?_, ?_, ?_, ?_, trivial⟩
            · intro act W2 hk
              refine Flow.does_intro rfl (fun Kq hK => ?_)
              have e6 : act.tmps[6]?.getD undef = .int .i64 (pp : Nat) := hk.o 6 (by kernel_rfl)
              clear hk
              go_simp
              exact hK _ _ (Ext.refl _) (fun d hd => by cases hd; rfl)
            · intro act W2 hk
              refine Flow.does_intro rfl (fun Kq hK => ?_)
              have e23 : act.tmps[23]?.getD undef = .int .i64 (pp : Nat) := hk.v 23 (by kernel_rfl)
              clear hk
              go_simp
              exact hK _ _ (Ext.refl _) (fun d hd => by cases hd; have h1 := hp9.out; simp [SP.eq]; omega)
            · intro act W2 hk
              refine Flow.does_intro rfl (fun Kq hK => ?_)
              have e24 : act.tmps[24]?.getD undef = .bool true := hk.v 24 (by kernel_rfl)
              clear hk
              go_simp
              exact hK _ _ (Ext.refl _) (fun d hd => by cases hd; rfl)
            · intro act W2 hk
              have eg : act.tmps[25]?.getD undef = .bool true := hk.v 25 (by kernel_rfl)
              refine Flow.does_intro (wanted_yes rfl rfl eg) (fun Kq hK => ?_)
              clear eg
              have e5 : act.tmps[5]?.getD undef = .pointer (some ⟨g, 0, none⟩) := hk.o 5 (by kernel_rfl)
              have g := ((kG.out).ext ((Ext.drew V0).trans hk.ext)).cell
              clear hk
              go_simp
              exact hK _ _ (Ext.refl _) (fun d hd => by cases hd; rfl)
            · intro act W2 hk
              have eg : act.tmps[25]?.getD undef = .bool true := hk.v 25 (by kernel_rfl)
              refine Flow.does_intro (wanted_yes rfl rfl eg) (fun Kq hK => ?_)
              clear eg
              have e3 : act.tmps[3]?.getD undef = .slice (some ⟨b3, o3, none⟩) acc.length cap3 := hk.o 3 (by kernel_rfl)
              clear hk
              go_simp
              exact hK _ _ (Ext.refl _) (fun d hd => by cases hd; rfl)
            · intro act W2 hk
              have eg : act.tmps[25]?.getD undef = .bool true := hk.v 25 (by kernel_rfl)
              refine Flow.does_intro (wanted_yes rfl rfl eg) (fun Kq hK => ?_)
              clear eg
              have e6 : act.tmps[6]?.getD undef = .int .i64 (pp : Nat) := hk.o 6 (by kernel_rfl)
              clear hk
              go_simp
              exact hK _ _ (Ext.refl _) (fun d hd => by cases hd; rfl)
            · intro act W2 hk
              have eg : act.tmps[25]?.getD undef = .bool true := hk.v 25 (by kernel_rfl)
              refine Flow.does_intro (wanted_yes rfl rfl eg) (fun Kq hK => ?_)
              clear eg
              have e28 : act.tmps[28]?.getD undef = .int .i64 (pp : Nat) := hk.v 28 (by kernel_rfl)
              clear hk
              go_simp
              exact hK _ _ (Ext.refl _) (fun d hd => by cases hd; have h1 := hp9.out; have h2 := hp3.out; simp [SP.eq]; first | omega | (rw [IntKind.wrap_i64]; omega))
            · intro act W2 hk
              have eg : act.tmps[25]?.getD undef = .bool true := hk.v 25 (by kernel_rfl)
              refine Flow.does_intro (wanted_yes rfl rfl eg) (fun Kq hK => ?_)
              clear eg
              have e27 : act.tmps[27]?.getD undef = .slice (some ⟨b3, o3, none⟩) acc.length cap3 := hk.v 27 (by kernel_rfl)
              have e29 : act.tmps[29]?.getD undef = .int .i64 (p2 : Nat) := hk.v 29 (by kernel_rfl)
              clear hk
              go_simp
              exact hK _ _ (Ext.refl _) (fun d hd => by cases hd; rfl)
            · intro act W2 hk
              have eg : act.tmps[25]?.getD undef = .bool true := hk.v 25 (by kernel_rfl)
              refine Flow.does_intro (wanted_yes rfl rfl eg) (fun Kq hK => ?_)
              clear eg
              have e30 : act.tmps[30]?.getD undef = .pointer (some ⟨b3, o3 + p2 * 6, none⟩) := hk.v 30 (by kernel_rfl)
              have g0 := Ext.cell ((Ext.drew V0).trans hk.ext) (((fun q v hv => Ext.cell (Ext.refl _) (kcy.out q v hv))) 0 _ rfl)
              rw [Nat.add_zero] at g0
              have g1 := Ext.cell ((Ext.drew V0).trans hk.ext) (((fun q v hv => Ext.cell (Ext.refl _) (kcy.out q v hv))) 1 _ rfl)
              have g2 := Ext.cell ((Ext.drew V0).trans hk.ext) (((fun q v hv => Ext.cell (Ext.refl _) (kcy.out q v hv))) 2 _ rfl)
              have g3 := Ext.cell ((Ext.drew V0).trans hk.ext) (((fun q v hv => Ext.cell (Ext.refl _) (kcy.out q v hv))) 3 _ rfl)
              have g4 := Ext.cell ((Ext.drew V0).trans hk.ext) (((fun q v hv => Ext.cell (Ext.refl _) (kcy.out q v hv))) 4 _ rfl)
              have g5 := Ext.cell ((Ext.drew V0).trans hk.ext) (((fun q v hv => Ext.cell (Ext.refl _) (kcy.out q v hv))) 5 _ rfl)
              clear hk
              go_simp
              exact hK _ _ (Ext.refl _) (fun d hd => by cases hd; rfl)
            · intro act W2 hk
              have eg : act.tmps[25]?.getD undef = .bool true := hk.v 25 (by kernel_rfl)
              refine Flow.does_intro (wanted_yes rfl rfl eg) (fun Kq hK => ?_)
              clear eg
              have e26 : act.tmps[26]?.getD undef = .agg #[.string x1.name, .string x1.key, .int .i64 x1.kind, .int .u64 x1.num, .string x1.text, .slice K4 x1.kids.length c4] := hk.v 26 (by kernel_rfl)
              have e31 : act.tmps[31]?.getD undef = .agg #[.string y.name, .string y.key, .int .i64 y.kind, .int .u64 y.num, .string y.text, .slice K6 y.kids.length c6] := hk.v 31 (by kernel_rfl)
              clear hk
              go_simp
              refine Calls.mono (hless.out _) ?_
              rintro e W3 ⟨rfl, hx⟩
              exact hK _ _ hx (fun d hd => by cases hd; exact congrArg Value.bool hle)
            · intro act W2 hk
              refine Flow.does_intro rfl (fun Kq hK => ?_)
              have e25 : act.tmps[25]?.getD undef = .bool true := hk.v 25 (by kernel_rfl)
              have e32 : act.tmps[32]?.getD undef = .bool false := hk.v 32 (by kernel_rfl)
              clear hk
              go_simp
              exact hK _ _ (Ext.refl _) (fun d hd => by cases hd; rfl)
          · intro act W2 he
            have hxW2 := Hd.mk ((Ext.drew V0).trans he.ext)
            obtain ⟨us, hA, hF⟩ := he.out [23, 24, 25, 26, 27, 28, 29, 30, 31, 32, 33] (by kernel_rfl)
            simp only [Flow.fillL, List.contains_cons, List.contains_nil, Nat.reduceBEq, Bool.or_false, Bool.false_or, Bool.or_true, Bool.true_or, ↓reduceIte, Nat.reduceAdd, Bool.false_eq_true] at hA
            subst hA
            have f33 : us 33 = .bool false := hF 33 (by simp)
            clear hF he
            rw [f33]
            clear f33
            refine (show wpList _ _ _ [] _ _ from ?_)
            replace kA := Hd.mk (kA.out.ext hxW2.out)
            replace kR := Hd.mk (kR.out.ext hxW2.out)
            replace kG := Hd.mk (kG.out.ext hxW2.out)
            replace kr5 := Hd.mk (kr5.out.ext hxW2.out)
            replace hacc := Hd.mk (hacc.out.ext hxW2.out)
            replace hrow3 := Hd.mk (hrow3.out.ext hxW2.out)
            replace kx := Hd.mk (kx.out.trans hxW2.out)
            replace kxW := Hd.mk (kxW.out.trans hxW2.out)
            replace kx5 := Hd.mk (kx5.out.trans hxW2.out)
            clear hxW2
            clear hy hy0 kcy hless hp9 hp3 hle
            generalize W2 = V2 at *
            have hac : acc.length < 1048576 := by have := hal.out; omega
            obtain ⟨css, q1, q2, q3, q4⟩ := hacc.out
            have kfl := Hd.mk (flatten_len css q2)
            have kone := Hd.mk (all_one q1 q3)
            have hcap3 := hrow3.out.cap
            have hnul3 := Hd.mk hrow3.out.nul
            have hsrc : Hd (∀ W, Ext V2 W → ∀ ad, (some (⟨b3, o3, none⟩ : Addr)) = some ad → ∀ j u, css.flatten[j]? = some u → W.cell? (ad.add j) = some u) := ⟨fun W hW ad had j u hj => by
              obtain ⟨A', cap', e', _, _, h5⟩ := own_slice q4
              have hj2 := (List.getElem?_eq_some_iff.1 hj).1
              rw [flatten_len css q2, q1] at hj2
              obtain ⟨g2, sp2, eA, _, hb2⟩ := h5 (by omega)
              simp only [Value.slice.injEq] at e'
              obtain ⟨rfl, _, _⟩ := e'
              cases had.symm.trans eA
              rw [addr_add, Nat.zero_add]
              refine Ext.cell hW ?_
              rw [hb2.cell, List.getElem?_append_left (List.getElem?_eq_some_iff.1 hj).1]
              exact hj⟩
            replace q1 := Hd.mk q1
            replace q2 := Hd.mk q2
            replace q3 := Hd.mk q3
            clear q4
            have hbase := Hd.mk (show p + 2 ≤ V2.heap.size by have := kxW.out.size; have := hpW.out; omega)
            have hins := Hd.mk (insSt_at (x := x1) (l := acc) (p := pp) hpp hab.out hbel.out)
            clear hbel hab hq2
            go_wp2_with ((with_reducible refine stop_at (.slice 52 (.tmp 37) none (some (.tmp 38)) none) ?_))
            refine Stop.mk ?_
            refine wpl_slice_lo 37 38 39 _ _ _ (some (⟨b3, o3, none⟩ : Addr)) acc.length cap3 pp rfl rfl hpp hcap3 ?_
            simp only [Act.put, List.setIfInBounds_toArray, List.set_cons_succ, List.set_cons_zero]
            refine wpl_append_src 36 39 40 _ _ _ V2.heap.size (.slice none 0 0) 0 [] rfl ⟨rfl, .inl ⟨rfl, rfl⟩⟩ (some (⟨b3, o3, none⟩ : Addr)) pp cap3 (css.flatten.take (pp * 6)) rfl (fun h => by have := hnul3.out h; omega) (by rw [List.length_take, kfl.out, q1.out]; omega) (fun ad had j u hj => by
              rw [List.getElem?_take] at hj
              split at hj
              · exact hsrc.out _ (Ext.refl _) ad had j u hj
              · cases hj) (all_take kone.out _).1 (by omega) (Nat.le_refl _) ?_
            intro v1 w6 ho1 hb1
            rw [Nat.zero_add, List.nil_append] at ho1
            have ho1 := Hd.mk ho1
            have hb1 := Hd.mk (show Ext V2 w6 from hb1)
            replace kG := Hd.mk (kG.out.ext hb1.out)
            have gG := kG.out.cell
            go_wp2_with ((with_reducible refine stop_at (.call { callee := .builtin .append, args := #[.tmp 41, .tmp 43], argTypes := #[52, 52] }) ?_))
            refine Stop.mk ?_
            have hxB := Ext.alloc w6 (.cells #[.string x1.name, .string x1.key, .int .i64 x1.kind, .int .u64 x1.num, .string x1.text, .slice K4 x1.kids.length c4] 54)
            have kB := Hd.mk (Blk.new w6 #[.string x1.name, .string x1.key, .int .i64 x1.kind, .int .u64 x1.num, .string x1.text, .slice K4 x1.kids.length c4] 54)
            replace ho1 := Hd.mk (own_ext hxB ho1.out)
            replace hb1 := Hd.mk (hb1.out.trans hxB)
            clear gG hxB
            generalize w6.heap.size = gb at *
            generalize w6.alloc _ = V3 at *
            refine wpl_append_src 41 43 44 _ _ _ V2.heap.size v1 pp _ rfl ho1.out (some ⟨gb, 0, none⟩) 1 1 [.string x1.name, .string x1.key, .int .i64 x1.kind, .int .u64 x1.num, .string x1.text, .slice K4 x1.kids.length c4] rfl (fun h => by cases h) rfl (fun ad had j u hj => by cases had; rw [addr_add, Nat.zero_add, kB.out.cell]; exact hj) (by rfl) (by omega) hb1.out.size ?_
            intro v2 w7 ho2 hb2
            have ho2 := Hd.mk ho2
            have hb2 := Hd.mk (show Ext V2 w7 from Below.trans hb1.out hb2)
            go_wp2_with ((with_reducible refine stop_at (.slice 52 (.tmp 46) (some (.tmp 47)) none none) ?_))
            refine Stop.mk ?_
            refine wpl_slice_hi 46 47 48 _ _ _ (some (⟨b3, o3, none⟩ : Addr)) acc.length cap3 pp rfl rfl hpp hcap3 ?_
            simp only [Act.put, List.setIfInBounds_toArray, List.set_cons_succ, List.set_cons_zero]
            refine wpl_append_src 45 48 49 _ _ _ V2.heap.size v2 (pp + 1) _ rfl ho2.out (if cap3 = pp then (some (⟨b3, o3, none⟩ : Addr)) else Option.map (·.add (pp * 6)) (some (⟨b3, o3, none⟩ : Addr))) (acc.length - pp) (cap3 - pp) (css.flatten.drop (pp * 6)) rfl (fun h => by
              by_cases he : cap3 = pp
              · omega
              · rw [if_neg he] at h
                have h0 : (some (⟨b3, o3, none⟩ : Addr)) = none := by
                  revert h
                  generalize (some (⟨b3, o3, none⟩ : Addr)) = A9
                  cases A9 with
                  | none => intro _; rfl
                  | some _ => intro h; cases h
                have := hnul3.out h0
                omega) (by rw [List.length_drop, kfl.out, q1.out]; omega) (fun ad had j u hj => by
              rw [List.getElem?_drop] at hj
              have hj2 := (List.getElem?_eq_some_iff.1 hj).1
              rw [kfl.out, q1.out] at hj2
              rw [if_neg (by omega)] at had
              obtain ⟨a9, ha9, had2⟩ := Option.map_eq_some_iff.1 had
              subst had2
              rw [addr_add_add]
              exact hsrc.out _ hb2.out a9 ha9 _ u hj) (all_take kone.out _).2 (by omega) hb2.out.size ?_
            intro v3 w8 ho3 hb3
            have hb3 := Hd.mk (show Ext V2 w8 from Below.trans hb2.out hb3)
            have hacc3 := Hd.mk (AccRow.put q1.out q2.out q3.out (kr5.out.ext hb3.out) hpp hb3.out hbase.out (by have := ho3; rw [show pp + 1 + (acc.length - pp) = acc.length + 1 by omega] at this; exact this))
            rw [← hins.out] at hacc3
            have hlast := Hd.mk (insSt_len x1 acc)
            have hI2 : Hd (sortL (insSt x1 acc) (t.kids.drop (j + 1)) = res) := ⟨by rw [← hI.out, hdrop.out, sortL_cons, hxs.out]⟩
            replace kA := Hd.mk (kA.out.ext hb3.out)
            replace kR := Hd.mk (kR.out.ext hb3.out)
            replace kx := Hd.mk (kx.out.trans hb3.out)
            replace kxW := Hd.mk (kxW.out.trans hb3.out)
            clear ho1 ho2 ho3 hb1 hb2 hb3 hsrc kG kB q1 q2 q3 kfl kone hins hI hdrop hxs hrow3 hacc
            generalize insSt x1 acc = acc2 at *
            generalize Value.slice (if cap3 = pp then _ else _) _ _ = v48
            go_wp2_with fail
            go_roundg (t.kids.length + 1 - (j + 1))
            case measure => have := hq.out; omega
            case rel => exact ⟨j + 1, by omega, ⟨rfl⟩, by go_num, acc2, ⟨by rw [hlast.out, hal.out]⟩, hI2, hacc3, kA, kR, kx, kxW⟩
    · have hjl : j = t.kids.length := by omega
      have hI2 := hI.out
      rw [hjl, List.drop_length, sortL_nil] at hI2
      subst hI2
      have fA := kA.out.free
      go_wp2_with ((with_reducible refine stop_at (.load 54 (.tmp 1)) ?_))
      refine Stop.mk ?_
      have hu := Upd.setCell wr ⟨p, 5, none⟩ (.slice A3 acc.length cap3)
      have kA4 := kA.out.setCell 5 (.slice A3 acc.length cap3)
      generalize wr.setCell _ _ = W4 at *
      replace kA := Hd.mk kA4
      replace kR := Hd.mk (hu.blk (by show p + 1 ≠ p; omega) kR.out)
      have hrow4 := Hd.mk (hrow3.out.keep (w' := W4) (S' := fun b => p + 2 ≤ b) (fun b off v hb hc => ⟨hb, by rw [← hc]; exact World.cell?_of_block (hu.block b (by show b ≠ p; omega))⟩))
      replace kx := Hd.mk (show Ext w W4 from Below.trans kx.out (hu.below (Nat.le_of_eq hp.out)))
      clear hu kA4 gA fA hacc hrow3
      have gA := kA.out.cell
      have gR := kR.out.cell
      have fR := kR.out.free
      go_wp2_with fail
      have hu := Hd.mk ((((((Upd.setCell W4 ⟨p + 1, 0, none⟩ (.string t.name)).trans (Upd.setCell _ ⟨p + 1, 1, none⟩ (.string t.key))).trans (Upd.setCell _ ⟨p + 1, 2, none⟩ (.int .i64 t.kind))).trans (Upd.setCell _ ⟨p + 1, 3, none⟩ (.int .u64 t.num))).trans (Upd.setCell _ ⟨p + 1, 4, none⟩ (.string t.text))).trans (Upd.setCell _ ⟨p + 1, 5, none⟩ (.slice A3 acc.length cap3)))
      exact ret_box rfl (p + 1) _ 54 _ ((((((kR.out.setCell 0 (.string t.name)).setCell 1 (.string t.key)).setCell 2 (.int .i64 t.kind)).setCell 3 (.int .u64 t.num)).setCell 4 (.string t.text)).setCell 5 (.slice A3 acc.length cap3)) rfl rfl Try.underlying54 rfl size54
        ⟨_, rfl, _, rfl, by
          rw [sortT_eq, ← hres.out]
          exact RT.of_row (t := t.wk acc) (hrow4.out.keep (S' := fun b => w.heap.size ≤ b) (fun b off v hb hc => ⟨by rw [hp.out]; omega, by rw [← hc]; exact World.cell?_of_block (hu.out.block b (by show b ≠ p + 1; omega))⟩)), Below.trans kx.out (hu.out.below (by rw [hp.out]; show p ≤ p + 1; omega))⟩
end Go.Proofs.Ytgkgedjmnbjalaa

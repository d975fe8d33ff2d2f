/- Texts that the law needs, joined.
   Conditions: none. -/
import Derived.Test.YtgkgedjmnbjalaaToI
import Derived.Test.YtgkgedjmnbjalaaToH
import Derived.Test.YtgkgedjmnbjalaaToD
set_option linter.unusedSimpArgs false
set_option linter.unusedVariables false
namespace Go.Proofs.Ytgkgedjmnbjalaa
open Go.RowKit Go.Sort
set_option maxRecDepth 100000 in
set_option maxHeartbeats 4000000 in
theorem sym_last (pre s1 : List It) (y : It) (post : List It) (sp : List Value) (g cap a m b n : Nat) (w : World) (hb : Blk w g (rowI (pre ++ (s1 ++ [y]) ++ post) ++ sp) 54) (ha : a = pre.length) (hmm : m = a + s1.length) (hbb : b = m + 1) (hn : n = (pre ++ (s1 ++ [y]) ++ post).length) (hm : n ≤ 1048576) (hs : SrtLe s1) (hne : s1.length ≠ 1) :
    Calls Try.prog 157 #[.slice (some ⟨g, 0, none⟩) n cap, .int .i64 a, .int .i64 m, .int .i64 b, .func (.func 116) #[] #[]] w fun e w' => e = .returned (.tuple #[]) ∧ (∃ s, SrtLe s ∧ SameF (s1 ++ [y]) s ∧ s.length = (s1 ++ [y]).length ∧ Blk w' g (rowI (pre ++ s ++ post) ++ sp) 54) ∧ w.grownBy w' (some g) := by
  have hlen : n = b + post.length := by rw [hn]; simp only [List.length_append, List.length_cons, List.length_nil]; omega
  have hw0 : IntKind.i64.wrap ((m : Int) - (a : Int)) = ((m - a : Nat) : Int) := by rw [IntKind.wrap_i64]; omega
  have hw00 : (((m - a : Nat) : Int) == 1) = false := by rw [beq_eq_false_iff_ne]; omega
  have hw01 : IntKind.i64.wrap ((b : Int) - (m : Int)) = 1 := by rw [IntKind.wrap_i64]; omega
  have hsI : SrtIn (pre ++ (s1 ++ [y]) ++ post) a m := by
    have h1 := srt_in (pre := pre) (s := s1) (post := [y] ++ post) hs
    rw [← ha, ← hmm] at h1
    simpa using h1
  have hym : (pre ++ (s1 ++ [y]) ++ post)[m]? = some y := by
    rw [hmm, ha, ← List.length_append, show pre ++ (s1 ++ [y]) ++ post = (pre ++ s1) ++ y :: post by simp]
    exact at_len _ _ _
  obtain ⟨l, hl⟩ : ∃ l, l = pre ++ (s1 ++ [y]) ++ post := ⟨_, rfl⟩
  rw [← hl] at hb hsI hym hn
  have ham : a ≤ m := by omega
  have hbn : b ≤ n := by omega
  have hmn : m < n := by omega
  obtain ⟨d, hd⟩ : ∃ d, d = m - a := ⟨_, rfl⟩
  rw [← hd] at hw0 hw00
  replace ha := Hd.mk ha
  replace hmm := Hd.mk hmm
  replace hbb := Hd.mk hbb
  replace hn := Hd.mk hn
  replace hb := Hd.mk hb
  replace hl := Hd.mk hl
  replace hlen := Hd.mk hlen
  replace hsI := Hd.mk hsI
  replace hym := Hd.mk hym
  replace hs := Hd.mk hs
  replace hd := Hd.mk hd
  go_enter Try.func157, Try.ntmps157
  go_wp2_with fail
  clear hw0 hw00 hw01
  go_loopg [14, 15] (n + 1) (fun q si sj wr => ∃ i j : Nat, a ≤ i ∧ i ≤ j ∧ j ≤ m ∧ Hd (j - i < q) ∧ si = .int .i64 i ∧ sj = .int .i64 j ∧ Hd (∀ p z, a ≤ p → p < i → l[p]? = some z → ltI y z = false) ∧ Hd (∀ p z, j ≤ p → p < m → l[p]? = some z → ltI y z = true) ∧ Hd (Blk wr g (rowI l ++ sp) 54) ∧ Hd (w.grownBy wr (some g)))
  case atStart => exact ⟨a, m, Nat.le_refl _, ham, Nat.le_refl _, ⟨by omega⟩, rfl, rfl, ⟨fun p y h1 h2 => by omega⟩, ⟨fun p y h1 h2 => by omega⟩, hb, ⟨grown_ext (Ext.refl _)⟩⟩
  case round =>
  clear hb
  obtain ⟨i, j, hai, hij, hjm, hq, rfl, rfl, hlo, hhi, hrow, hgr⟩ := hrel
  generalize wr = V0 at *
  by_cases hlt : i < j
  · obtain ⟨h, hh⟩ : ∃ h, h = (i + j) / 2 := ⟨_, rfl⟩
    have hh1 : i ≤ h := by omega
    have hh2 : h < j := by omega
    have hh3 : h < n := by omega
    have hh4 : h < l.length := by have := hn.out; omega
    have hz := List.getElem?_eq_getElem hh4
    generalize l[h] = z at hz
    have e1 : IntKind.i64.wrap ((i : Int) + (j : Int)) = ((i + j : Nat) : Int) := by rw [IntKind.wrap_i64]; omega
    have e2 : ((i : Int) + (j : Int)) / 2 = (h : Int) := by omega
    have hcA := Hd.mk (rowI_cell hrow.out hym.out)
    have hcB := Hd.mk (rowI_cell hrow.out hz)
    have hcmp := Hd.mk (fun w => tree_compare y.1 z.1 y.2.1 z.2.1 y.1.kids.length y.2.2 z.1.kids.length z.2.2 w)
    simp only [cT, cI] at hcmp hcA hcB
    have hlt0 : (i : Int) < (j : Int) := by omega
    have hh3i : (h : Int) < (n : Int) := by omega
    have hmni : (m : Int) < (n : Int) := by omega
    replace hz := Hd.mk hz
    replace hh := Hd.mk hh
    clear hh4
    cases hle : ltI y z with
    | true =>
      have hneg := Hd.mk (cmp_lt hle)
      go_wp2_with fail
      refine Flow.wp_region_flow_l (fun qq => match qq with
        | 92 => SP.eq (.func (.func 116) #[] #[])
        | 93 => SP.eq (.slice (some ⟨g, 0, none⟩) n cap)
        | 94 => SP.eq (.int .i64 (m : Nat))
        | 95 => SP.eq (.pointer (some ⟨g, m * 6, none⟩))
        | 96 => SP.eq (.agg #[.string y.1.name, .string y.1.key, .int .i64 y.1.kind, .int .u64 y.1.num, .string y.1.text, .slice y.2.1 y.1.kids.length y.2.2])
        | 97 => SP.eq (.slice (some ⟨g, 0, none⟩) n cap)
        | 98 => SP.eq (.int .i64 (h : Nat))
        | 99 => SP.eq (.pointer (some ⟨g, h * 6, none⟩))
        | 100 => SP.eq (.agg #[.string z.1.name, .string z.1.key, .int .i64 z.1.kind, .int .u64 z.1.num, .string z.1.text, .slice z.2.1 z.1.kids.length z.2.2])
        | 101 => SP.eq (.int .i64 (cmpT y.1 z.1))
        | 102 => SP.eq (.bool true)
        | 103 => SP.eq (.bool false)
        | _ => SP.any) 12 (by kernel_rfl) 220 rfl (by kernel_rfl) ?_ ?_
      · skip
        refine ⟨?_, ?_, ?_, ?_, ?_, ?_, ?_, ?_, ?_, ?_, ?_, ?_, trivial⟩
        · intro act W2 hk
          refine Flow.does_intro rfl (fun Kq hK => ?_)
          have e4 : act.tmps[4]?.getD undef = .func (.func 116) #[] #[] := hk.o 4 (by kernel_rfl)
          clear hk
          go_simp
          exact hK _ _ (Ext.refl _) (fun d hd => by cases hd; rfl)
        · intro act W2 hk
          refine Flow.does_intro rfl (fun Kq hK => ?_)
          have e0 : act.tmps[0]?.getD undef = .slice (some ⟨g, 0, none⟩) n cap := hk.o 0 (by kernel_rfl)
          clear hk
          go_simp
          exact hK _ _ (Ext.refl _) (fun d hd => by cases hd; rfl)
        · intro act W2 hk
          refine Flow.does_intro rfl (fun Kq hK => ?_)
          have e2 : act.tmps[2]?.getD undef = .int .i64 (m : Nat) := hk.o 2 (by kernel_rfl)
          clear hk
          go_simp
          exact hK _ _ (Ext.refl _) (fun d hd => by cases hd; rfl)
        · intro act W2 hk
          refine Flow.does_intro rfl (fun Kq hK => ?_)
          have e93 : act.tmps[93]?.getD undef = .slice (some ⟨g, 0, none⟩) n cap := hk.v 93 (by kernel_rfl)
          have e94 : act.tmps[94]?.getD undef = .int .i64 (m : Nat) := hk.v 94 (by kernel_rfl)
          clear hk
          go_simp
          exact hK _ _ (Ext.refl _) (fun d hd => by cases hd; rfl)
        · intro act W2 hk
          refine Flow.does_intro rfl (fun Kq hK => ?_)
          have e95 : act.tmps[95]?.getD undef = .pointer (some ⟨g, m * 6, none⟩) := hk.v 95 (by kernel_rfl)
          have g0 := Ext.cell ((Ext.drew V0).trans hk.ext) ((hcA.out) 0 _ rfl)
          rw [Nat.add_zero] at g0
          have g1 := Ext.cell ((Ext.drew V0).trans hk.ext) ((hcA.out) 1 _ rfl)
          have g2 := Ext.cell ((Ext.drew V0).trans hk.ext) ((hcA.out) 2 _ rfl)
          have g3 := Ext.cell ((Ext.drew V0).trans hk.ext) ((hcA.out) 3 _ rfl)
          have g4 := Ext.cell ((Ext.drew V0).trans hk.ext) ((hcA.out) 4 _ rfl)
          have g5 := Ext.cell ((Ext.drew V0).trans hk.ext) ((hcA.out) 5 _ rfl)
          clear hk
          go_simp
          exact hK _ _ (Ext.refl _) (fun d hd => by cases hd; rfl)
        · intro act W2 hk
          refine Flow.does_intro rfl (fun Kq hK => ?_)
          have e0 : act.tmps[0]?.getD undef = .slice (some ⟨g, 0, none⟩) n cap := hk.o 0 (by kernel_rfl)
          clear hk
          go_simp
          exact hK _ _ (Ext.refl _) (fun d hd => by cases hd; rfl)
        · intro act W2 hk
          refine Flow.does_intro rfl (fun Kq hK => ?_)
          have e16 : act.tmps[16]?.getD undef = .int .i64 (h : Nat) := hk.o 16 (by kernel_rfl)
          clear hk
          go_simp
          exact hK _ _ (Ext.refl _) (fun d hd => by cases hd; rfl)
        · intro act W2 hk
          refine Flow.does_intro rfl (fun Kq hK => ?_)
          have e97 : act.tmps[97]?.getD undef = .slice (some ⟨g, 0, none⟩) n cap := hk.v 97 (by kernel_rfl)
          have e98 : act.tmps[98]?.getD undef = .int .i64 (h : Nat) := hk.v 98 (by kernel_rfl)
          clear hk
          go_simp
          exact hK _ _ (Ext.refl _) (fun d hd => by cases hd; rfl)
        · intro act W2 hk
          refine Flow.does_intro rfl (fun Kq hK => ?_)
          have e99 : act.tmps[99]?.getD undef = .pointer (some ⟨g, h * 6, none⟩) := hk.v 99 (by kernel_rfl)
          have g0 := Ext.cell ((Ext.drew V0).trans hk.ext) ((hcB.out) 0 _ rfl)
          rw [Nat.add_zero] at g0
          have g1 := Ext.cell ((Ext.drew V0).trans hk.ext) ((hcB.out) 1 _ rfl)
          have g2 := Ext.cell ((Ext.drew V0).trans hk.ext) ((hcB.out) 2 _ rfl)
          have g3 := Ext.cell ((Ext.drew V0).trans hk.ext) ((hcB.out) 3 _ rfl)
          have g4 := Ext.cell ((Ext.drew V0).trans hk.ext) ((hcB.out) 4 _ rfl)
          have g5 := Ext.cell ((Ext.drew V0).trans hk.ext) ((hcB.out) 5 _ rfl)
          clear hk
          go_simp
          exact hK _ _ (Ext.refl _) (fun d hd => by cases hd; rfl)
        · intro act W2 hk
          refine Flow.does_intro rfl (fun Kq hK => ?_)
          have e92 : act.tmps[92]?.getD undef = .func (.func 116) #[] #[] := hk.v 92 (by kernel_rfl)
          have e96 : act.tmps[96]?.getD undef = .agg #[.string y.1.name, .string y.1.key, .int .i64 y.1.kind, .int .u64 y.1.num, .string y.1.text, .slice y.2.1 y.1.kids.length y.2.2] := hk.v 96 (by kernel_rfl)
          have e100 : act.tmps[100]?.getD undef = .agg #[.string z.1.name, .string z.1.key, .int .i64 z.1.kind, .int .u64 z.1.num, .string z.1.text, .slice z.2.1 z.1.kids.length z.2.2] := hk.v 100 (by kernel_rfl)
          clear hk
          go_simp
          refine Calls.mono (hcmp.out _) ?_
          rintro e W3 ⟨rfl, hx⟩
          exact hK _ _ hx (fun d hd => by cases hd; rfl)
        · intro act W2 hk
          refine Flow.does_intro rfl (fun Kq hK => ?_)
          have e101 : act.tmps[101]?.getD undef = .int .i64 (cmpT y.1 z.1) := hk.v 101 (by kernel_rfl)
          clear hk
          go_simp
          exact hK _ _ (Ext.refl _) (fun d hd => by cases hd; have h1 := hneg.out; simp [SP.eq] at h1 ⊢; omega)
        · intro act W2 hk
          refine Flow.does_intro rfl (fun Kq hK => ?_)
          have e102 : act.tmps[102]?.getD undef = .bool true := hk.v 102 (by kernel_rfl)
          clear hk
          go_simp
          exact hK _ _ (Ext.refl _) (fun d hd => by cases hd; rfl)
      · intro act W2 he
        have hxW2 := Hd.mk ((Ext.drew V0).trans he.ext)
        obtain ⟨us, hA, hF⟩ := he.out [92, 93, 94, 95, 96, 97, 98, 99, 100, 101, 102, 103] (by kernel_rfl)
        simp only [Flow.fillL, List.contains_cons, List.contains_nil, Nat.reduceBEq, Bool.or_false, Bool.false_or, Bool.or_true, Bool.true_or, ↓reduceIte, Nat.reduceAdd, Bool.false_eq_true] at hA
        subst hA
        have f103 : us 103 = .bool false := hF 103 (by simp)
        clear hF he
        rw [f103]
        clear f103
        refine (show wpList _ _ _ [] _ _ from ?_)
        replace hrow := Hd.mk (hrow.out.ext hxW2.out)
        replace hgr := Hd.mk (grown_trans hgr.out (grown_ext hxW2.out))
        clear hxW2
        clear e1 e2
        go_wp2_with fail
        go_roundg (h - i + 1)
        case measure => have := hq.out; omega
        case rel => exact ⟨i, h, hai, hh1, by omega, ⟨by omega⟩, rfl, rfl, hlo, ⟨fun p x h1 h2 hx => lt_le_trans hle (hsI.out h p z x (by omega) h1 h2 hz.out hx)⟩, hrow, hgr⟩
    | false =>
      have hneg := Hd.mk (cmp_lt hle)
      go_wp2_with fail
      refine Flow.wp_region_flow_l (fun qq => match qq with
        | 92 => SP.eq (.func (.func 116) #[] #[])
        | 93 => SP.eq (.slice (some ⟨g, 0, none⟩) n cap)
        | 94 => SP.eq (.int .i64 (m : Nat))
        | 95 => SP.eq (.pointer (some ⟨g, m * 6, none⟩))
        | 96 => SP.eq (.agg #[.string y.1.name, .string y.1.key, .int .i64 y.1.kind, .int .u64 y.1.num, .string y.1.text, .slice y.2.1 y.1.kids.length y.2.2])
        | 97 => SP.eq (.slice (some ⟨g, 0, none⟩) n cap)
        | 98 => SP.eq (.int .i64 (h : Nat))
        | 99 => SP.eq (.pointer (some ⟨g, h * 6, none⟩))
        | 100 => SP.eq (.agg #[.string z.1.name, .string z.1.key, .int .i64 z.1.kind, .int .u64 z.1.num, .string z.1.text, .slice z.2.1 z.1.kids.length z.2.2])
        | 101 => SP.eq (.int .i64 (cmpT y.1 z.1))
        | 102 => SP.eq (.bool false)
        | 103 => SP.eq (.bool true)
        | _ => SP.any) 12 (by kernel_rfl) 220 rfl (by kernel_rfl) ?_ ?_
      · skip
        refine ⟨?_, ?_, ?_, ?_, ?_, ?_, ?_, ?_, ?_, ?_, ?_, ?_, trivial⟩
        · intro act W2 hk
          refine Flow.does_intro rfl (fun Kq hK => ?_)
          have e4 : act.tmps[4]?.getD undef = .func (.func 116) #[] #[] := hk.o 4 (by kernel_rfl)
          clear hk
          go_simp
          exact hK _ _ (Ext.refl _) (fun d hd => by cases hd; rfl)
        · intro act W2 hk
          refine Flow.does_intro rfl (fun Kq hK => ?_)
          have e0 : act.tmps[0]?.getD undef = .slice (some ⟨g, 0, none⟩) n cap := hk.o 0 (by kernel_rfl)
          clear hk
          go_simp
          exact hK _ _ (Ext.refl _) (fun d hd => by cases hd; rfl)
        · intro act W2 hk
          refine Flow.does_intro rfl (fun Kq hK => ?_)
          have e2 : act.tmps[2]?.getD undef = .int .i64 (m : Nat) := hk.o 2 (by kernel_rfl)
          clear hk
          go_simp
          exact hK _ _ (Ext.refl _) (fun d hd => by cases hd; rfl)
        · intro act W2 hk
          refine Flow.does_intro rfl (fun Kq hK => ?_)
          have e93 : act.tmps[93]?.getD undef = .slice (some ⟨g, 0, none⟩) n cap := hk.v 93 (by kernel_rfl)
          have e94 : act.tmps[94]?.getD undef = .int .i64 (m : Nat) := hk.v 94 (by kernel_rfl)
          clear hk
          go_simp
          exact hK _ _ (Ext.refl _) (fun d hd => by cases hd; rfl)
        · intro act W2 hk
          refine Flow.does_intro rfl (fun Kq hK => ?_)
          have e95 : act.tmps[95]?.getD undef = .pointer (some ⟨g, m * 6, none⟩) := hk.v 95 (by kernel_rfl)
          have g0 := Ext.cell ((Ext.drew V0).trans hk.ext) ((hcA.out) 0 _ rfl)
          rw [Nat.add_zero] at g0
          have g1 := Ext.cell ((Ext.drew V0).trans hk.ext) ((hcA.out) 1 _ rfl)
          have g2 := Ext.cell ((Ext.drew V0).trans hk.ext) ((hcA.out) 2 _ rfl)
          have g3 := Ext.cell ((Ext.drew V0).trans hk.ext) ((hcA.out) 3 _ rfl)
          have g4 := Ext.cell ((Ext.drew V0).trans hk.ext) ((hcA.out) 4 _ rfl)
          have g5 := Ext.cell ((Ext.drew V0).trans hk.ext) ((hcA.out) 5 _ rfl)
          clear hk
          go_simp
          exact hK _ _ (Ext.refl _) (fun d hd => by cases hd; rfl)
        · intro act W2 hk
          refine Flow.does_intro rfl (fun Kq hK => ?_)
          have e0 : act.tmps[0]?.getD undef = .slice (some ⟨g, 0, none⟩) n cap := hk.o 0 (by kernel_rfl)
          clear hk
          go_simp
          exact hK _ _ (Ext.refl _) (fun d hd => by cases hd; rfl)
        · intro act W2 hk
          refine Flow.does_intro rfl (fun Kq hK => ?_)
          have e16 : act.tmps[16]?.getD undef = .int .i64 (h : Nat) := hk.o 16 (by kernel_rfl)
          clear hk
          go_simp
          exact hK _ _ (Ext.refl _) (fun d hd => by cases hd; rfl)
        · intro act W2 hk
          refine Flow.does_intro rfl (fun Kq hK => ?_)
          have e97 : act.tmps[97]?.getD undef = .slice (some ⟨g, 0, none⟩) n cap := hk.v 97 (by kernel_rfl)
          have e98 : act.tmps[98]?.getD undef = .int .i64 (h : Nat) := hk.v 98 (by kernel_rfl)
          clear hk
          go_simp
          exact hK _ _ (Ext.refl _) (fun d hd => by cases hd; rfl)
        · intro act W2 hk
          refine Flow.does_intro rfl (fun Kq hK => ?_)
          have e99 : act.tmps[99]?.getD undef = .pointer (some ⟨g, h * 6, none⟩) := hk.v 99 (by kernel_rfl)
          have g0 := Ext.cell ((Ext.drew V0).trans hk.ext) ((hcB.out) 0 _ rfl)
          rw [Nat.add_zero] at g0
          have g1 := Ext.cell ((Ext.drew V0).trans hk.ext) ((hcB.out) 1 _ rfl)
          have g2 := Ext.cell ((Ext.drew V0).trans hk.ext) ((hcB.out) 2 _ rfl)
          have g3 := Ext.cell ((Ext.drew V0).trans hk.ext) ((hcB.out) 3 _ rfl)
          have g4 := Ext.cell ((Ext.drew V0).trans hk.ext) ((hcB.out) 4 _ rfl)
          have g5 := Ext.cell ((Ext.drew V0).trans hk.ext) ((hcB.out) 5 _ rfl)
          clear hk
          go_simp
          exact hK _ _ (Ext.refl _) (fun d hd => by cases hd; rfl)
        · intro act W2 hk
          refine Flow.does_intro rfl (fun Kq hK => ?_)
          have e92 : act.tmps[92]?.getD undef = .func (.func 116) #[] #[] := hk.v 92 (by kernel_rfl)
          have e96 : act.tmps[96]?.getD undef = .agg #[.string y.1.name, .string y.1.key, .int .i64 y.1.kind, .int .u64 y.1.num, .string y.1.text, .slice y.2.1 y.1.kids.length y.2.2] := hk.v 96 (by kernel_rfl)
          have e100 : act.tmps[100]?.getD undef = .agg #[.string z.1.name, .string z.1.key, .int .i64 z.1.kind, .int .u64 z.1.num, .string z.1.text, .slice z.2.1 z.1.kids.length z.2.2] := hk.v 100 (by kernel_rfl)
          clear hk
          go_simp
          refine Calls.mono (hcmp.out _) ?_
          rintro e W3 ⟨rfl, hx⟩
          exact hK _ _ hx (fun d hd => by cases hd; rfl)
        · intro act W2 hk
          refine Flow.does_intro rfl (fun Kq hK => ?_)
          have e101 : act.tmps[101]?.getD undef = .int .i64 (cmpT y.1 z.1) := hk.v 101 (by kernel_rfl)
          clear hk
          go_simp
          exact hK _ _ (Ext.refl _) (fun d hd => by cases hd; have h1 := hneg.out; simp [SP.eq] at h1 ⊢; omega)
        · intro act W2 hk
          refine Flow.does_intro rfl (fun Kq hK => ?_)
          have e102 : act.tmps[102]?.getD undef = .bool false := hk.v 102 (by kernel_rfl)
          clear hk
          go_simp
          exact hK _ _ (Ext.refl _) (fun d hd => by cases hd; rfl)
      · intro act W2 he
        have hxW2 := Hd.mk ((Ext.drew V0).trans he.ext)
        obtain ⟨us, hA, hF⟩ := he.out [92, 93, 94, 95, 96, 97, 98, 99, 100, 101, 102, 103] (by kernel_rfl)
        simp only [Flow.fillL, List.contains_cons, List.contains_nil, Nat.reduceBEq, Bool.or_false, Bool.false_or, Bool.or_true, Bool.true_or, ↓reduceIte, Nat.reduceAdd, Bool.false_eq_true] at hA
        subst hA
        have f103 : us 103 = .bool true := hF 103 (by simp)
        clear hF he
        rw [f103]
        clear f103
        refine (show wpList _ _ _ [] _ _ from ?_)
        replace hrow := Hd.mk (hrow.out.ext hxW2.out)
        replace hgr := Hd.mk (grown_trans hgr.out (grown_ext hxW2.out))
        clear hxW2
        clear e1 e2
        go_wp2_with fail
        go_roundg (j - h)
        case measure => have := hq.out; omega
        case rel => exact ⟨h + 1, j, by omega, by omega, hjm, ⟨by omega⟩, by go_num, rfl, ⟨fun p x h1 h2 hx => le_trans' (hsI.out p h x z h1 (by omega) (by omega) hx hz.out) hle⟩, hhi, hrow, hgr⟩
  · have hji : j = i := by omega
    subst hji
    obtain ⟨P, Q, hPQ, hPl, hQl⟩ : ∃ P Q, s1 = P ++ Q ∧ P.length = j - a ∧ Q.length = m - j := ⟨s1.take (j - a), s1.drop (j - a), (List.take_append_drop _ _).symm, by rw [List.length_take]; have := hmm.out; omega, by rw [List.length_drop]; have := hmm.out; omega⟩
    have hlP : l = pre ++ P ++ (Q ++ y :: post) := by rw [hl.out, hPQ]; simp
    have hP : ∀ p ∈ P, ltI y p = false := fun p hp => by
      obtain ⟨k, hk⟩ := List.getElem?_of_mem hp
      have hkl := (List.getElem?_eq_some_iff.1 hk).1
      refine hlo.out (a + k) p (by omega) (by omega) ?_
      rw [hlP, List.append_assoc, List.getElem?_append_right (by have := ha.out; omega), ← ha.out, show a + k - a = k by omega, List.getElem?_append_left hkl]
      exact hk
    have hQ : ∀ q ∈ Q, ltI y q = true := fun p hp => by
      obtain ⟨k, hk⟩ := List.getElem?_of_mem hp
      have hkl := (List.getElem?_eq_some_iff.1 hk).1
      refine hhi.out (j + k) p (by omega) (by omega) ?_
      rw [hlP, List.getElem?_append_right (by rw [List.length_append, ← ha.out]; omega), List.length_append, ← ha.out, show j + k - (a + P.length) = k by omega, List.getElem?_append_left hkl]
      exact hk
    have hfin := Hd.mk (ins_last (y := y) (P := P) (Q := Q) (by rw [← hPQ]; exact hs.out) hP hQ)
    rw [← hPQ] at hfin
    have hge : ¬ (j : Int) < (j : Int) := by omega
    have hrowP : Blk V0 g (rowI ((pre ++ P ++ Q) ++ y :: ([] ++ post)) ++ sp) 54 := by have := hrow.out; rw [hlP] at this; simpa using this
    replace hrowP := Hd.mk hrowP
    have hsl := Hd.mk (show s1.length = P.length + Q.length by rw [hPQ, List.length_append])
    clear hrow hlP hP hQ hPQ hlo hhi
    replace hPl := Hd.mk hPl
    replace hQl := Hd.mk hQl
    go_wp2_with fail
    go_loopg [17] (n + 1) (fun q sk wr => ∃ (k : Nat) (Q1 Q2 : List It), j ≤ k ∧ k ≤ m ∧ Hd (k < q) ∧ sk = .int .i64 k ∧ Hd (k = j + Q1.length) ∧ Hd (Q1 ++ Q2 = Q) ∧ Hd (Blk wr g (rowI ((pre ++ P ++ Q1) ++ y :: (Q2 ++ post)) ++ sp) 54) ∧ Hd (w.grownBy wr (some g)))
    case atStart => exact ⟨m, Q, [], by omega, Nat.le_refl _, ⟨by omega⟩, rfl, ⟨by have := hQl.out; omega⟩, ⟨by simp⟩, hrowP, hgr⟩
    case round =>
    clear hrowP hgr
    obtain ⟨k, Q1, Q2, hjk, hkm, hq2, rfl, hk, hQQ, hrow, hgr⟩ := hrel
    generalize wr = V1 at *
    have hQQl : Q1.length + Q2.length = Q.length := by rw [← hQQ.out, List.length_append]
    by_cases hlt2 : j < k
    · have hlt2i : (j : Int) < (k : Int) := by omega
      rcases List.eq_nil_or_concat Q1 with hQ0 | ⟨Q3, z, hQ0⟩
      · exfalso; have := hk.out; rw [hQ0] at this; simp at this; omega
      · rw [List.concat_eq_append] at hQ0
        subst hQ0
        have hrow' : Blk V1 g (rowI ((pre ++ P ++ Q3) ++ z :: y :: (Q2 ++ post)) ++ sp) 54 := by simpa using hrow.out
        obtain ⟨k1, hk1⟩ : ∃ k1, k = k1 + 1 := ⟨k - 1, by omega⟩
        have hkl : (pre ++ P ++ Q3).length = k1 := by have h1 := hk.out; have h2 := ha.out; have h3 := hPl.out; simp at h1 ⊢; omega
        have hcA := Hd.mk (rowI_cell hrow' (i := (pre ++ P ++ Q3).length) (x := z) (at_len _ _ _))
        have hcB := Hd.mk (rowI_cell hrow' (i := (pre ++ P ++ Q3).length + 1) (x := y) (at_len1 _ _ _ _))
        have hsw := Hd.mk (swap_list (pre ++ P ++ Q3) y z (Q2 ++ post))
        rw [hkl] at hcA hcB hsw
        rw [← hk1] at hcB hsw
        have hln : ((pre ++ P ++ Q3) ++ z :: y :: (Q2 ++ post)).length = n := by
          rw [hlen.out]
          simp only [List.length_append, List.length_cons, List.length_nil] at hQQl ⊢
          have := ha.out; have := hsl.out; have := hbb.out; have := hmm.out
          omega
        simp only [cI] at hcA hcB
        have hkn : k < n := by omega
        have hk1n : k1 < n := by omega
        have hkni : (k : Int) < (n : Int) := by omega
        have hk1ni : (k1 : Int) < (n : Int) := by omega
        replace hk1 := Hd.mk hk1
        replace hln := Hd.mk hln
        replace hrow' := Hd.mk hrow'
        clear hrow hkl hQQl
        go_wp2_with fail
        refine FlowG.wp_region_flow_l (G := fun _ u => Blk u g (rowI (((pre ++ P ++ Q3) ++ z :: y :: (Q2 ++ post)).set k z) ++ sp) 54) (fun _ _ _ hx h => h.ext hx) (R := fun u v => u.grownBy v (some g)) 15 (fun _ _ h => grown_ext h) (fun h k => grown_trans h k) (fun qq => match qq with
          | 113 => SP.eq (.slice (some ⟨g, 0, none⟩) n cap)
          | 114 => SP.eq (.int .i64 (k : Nat))
          | 115 => SP.eq (.slice (some ⟨g, 0, none⟩) n cap)
          | 116 => SP.eq (.int .i64 (k : Nat))
          | 117 => SP.eq (.int .i64 (k1 : Nat))
          | 118 => SP.eq (.slice (some ⟨g, 0, none⟩) n cap)
          | 119 => SP.eq (.int .i64 (k : Nat))
          | 120 => SP.eq (.int .i64 (k1 : Nat))
          | 121 => SP.eq (.pointer (some ⟨g, k1 * 6, none⟩))
          | 122 => SP.eq (.agg #[.string z.1.name, .string z.1.key, .int .i64 z.1.kind, .int .u64 z.1.num, .string z.1.text, .slice z.2.1 z.1.kids.length z.2.2])
          | 123 => SP.eq (.slice (some ⟨g, 0, none⟩) n cap)
          | 124 => SP.eq (.int .i64 (k : Nat))
          | 125 => SP.eq (.pointer (some ⟨g, k * 6, none⟩))
          | 126 => SP.eq (.agg #[.string y.1.name, .string y.1.key, .int .i64 y.1.kind, .int .u64 y.1.num, .string y.1.text, .slice y.2.1 y.1.kids.length y.2.2])
          | 127 => SP.eq (.pointer (some ⟨g, k * 6, none⟩))
          | 128 => SP.eq (.pointer (some ⟨g, k1 * 6, none⟩))
          | _ => SP.any) 17 (by kernel_rfl) 220 rfl (by kernel_rfl) (of_decide_eq_true (by kernel_rfl)) (by decide) (by kernel_rfl) ?_ ?_ ?_
        · intro q hq u' v1 v2 hR
          split
          all_goals exact fun h => h
        · skip
          refine ⟨?_, ?_, ?_, ?_, ?_, ?_, ?_, ?_, ?_, ?_, ?_, ?_, ?_, ?_, ?_, ?_, ?_, trivial⟩
          · intro act W2 hk
            refine FlowG.does_intro rfl (fun Kq hK => ?_)
            have e0 : act.tmps[0]?.getD undef = .slice (some ⟨g, 0, none⟩) n cap := hk.o 0 (by kernel_rfl)
            clear hk
            go_simp
            exact hK _ _ (Ext.refl _) (fun h => absurd h (by decide)) (fun d hd => by cases hd; rfl)
          · intro act W2 hk
            refine FlowG.does_intro rfl (fun Kq hK => ?_)
            have e17 : act.tmps[17]?.getD undef = .int .i64 (k : Nat) := hk.o 17 (by kernel_rfl)
            clear hk
            go_simp
            exact hK _ _ (Ext.refl _) (fun h => absurd h (by decide)) (fun d hd => by cases hd; rfl)
          · intro act W2 hk
            refine FlowG.does_intro rfl (fun Kq hK => ?_)
            have e0 : act.tmps[0]?.getD undef = .slice (some ⟨g, 0, none⟩) n cap := hk.o 0 (by kernel_rfl)
            clear hk
            go_simp
            exact hK _ _ (Ext.refl _) (fun h => absurd h (by decide)) (fun d hd => by cases hd; rfl)
          · intro act W2 hk
            refine FlowG.does_intro rfl (fun Kq hK => ?_)
            have e17 : act.tmps[17]?.getD undef = .int .i64 (k : Nat) := hk.o 17 (by kernel_rfl)
            clear hk
            go_simp
            exact hK _ _ (Ext.refl _) (fun h => absurd h (by decide)) (fun d hd => by cases hd; rfl)
          · intro act W2 hk
            refine FlowG.does_intro rfl (fun Kq hK => ?_)
            have e116 : act.tmps[116]?.getD undef = .int .i64 (k : Nat) := hk.v 116 (by kernel_rfl)
            clear hk
            go_simp
            exact hK _ _ (Ext.refl _) (fun h => absurd h (by decide)) (fun d hd => by cases hd; have h1 := hk1.out; have h2 := hkn; simp [SP.eq]; first | omega | (unfold wrap64; omega) | (rw [IntKind.wrap_i64]; omega))
          · intro act W2 hk
            refine FlowG.does_intro rfl (fun Kq hK => ?_)
            have e0 : act.tmps[0]?.getD undef = .slice (some ⟨g, 0, none⟩) n cap := hk.o 0 (by kernel_rfl)
            clear hk
            go_simp
            exact hK _ _ (Ext.refl _) (fun h => absurd h (by decide)) (fun d hd => by cases hd; rfl)
          · intro act W2 hk
            refine FlowG.does_intro rfl (fun Kq hK => ?_)
            have e17 : act.tmps[17]?.getD undef = .int .i64 (k : Nat) := hk.o 17 (by kernel_rfl)
            clear hk
            go_simp
            exact hK _ _ (Ext.refl _) (fun h => absurd h (by decide)) (fun d hd => by cases hd; rfl)
          · intro act W2 hk
            refine FlowG.does_intro rfl (fun Kq hK => ?_)
            have e119 : act.tmps[119]?.getD undef = .int .i64 (k : Nat) := hk.v 119 (by kernel_rfl)
            clear hk
            go_simp
            exact hK _ _ (Ext.refl _) (fun h => absurd h (by decide)) (fun d hd => by cases hd; have h1 := hk1.out; have h2 := hkn; simp [SP.eq]; first | omega | (unfold wrap64; omega) | (rw [IntKind.wrap_i64]; omega))
          · intro act W2 hk
            refine FlowG.does_intro rfl (fun Kq hK => ?_)
            have e118 : act.tmps[118]?.getD undef = .slice (some ⟨g, 0, none⟩) n cap := hk.v 118 (by kernel_rfl)
            have e120 : act.tmps[120]?.getD undef = .int .i64 (k1 : Nat) := hk.v 120 (by kernel_rfl)
            clear hk
            go_simp
            exact hK _ _ (Ext.refl _) (fun h => absurd h (by decide)) (fun d hd => by cases hd; rfl)
          · intro act W2 hk
            refine FlowG.does_intro rfl (fun Kq hK => ?_)
            have e121 : act.tmps[121]?.getD undef = .pointer (some ⟨g, k1 * 6, none⟩) := hk.v 121 (by kernel_rfl)
            have g0 := Ext.cell ((Ext.drew V1).trans (hk.early (.inr (by kernel_rfl)))) ((hcA.out) 0 _ rfl)
            rw [Nat.add_zero] at g0
            have g1 := Ext.cell ((Ext.drew V1).trans (hk.early (.inr (by kernel_rfl)))) ((hcA.out) 1 _ rfl)
            have g2 := Ext.cell ((Ext.drew V1).trans (hk.early (.inr (by kernel_rfl)))) ((hcA.out) 2 _ rfl)
            have g3 := Ext.cell ((Ext.drew V1).trans (hk.early (.inr (by kernel_rfl)))) ((hcA.out) 3 _ rfl)
            have g4 := Ext.cell ((Ext.drew V1).trans (hk.early (.inr (by kernel_rfl)))) ((hcA.out) 4 _ rfl)
            have g5 := Ext.cell ((Ext.drew V1).trans (hk.early (.inr (by kernel_rfl)))) ((hcA.out) 5 _ rfl)
            clear hk
            go_simp
            exact hK _ _ (Ext.refl _) (fun h => absurd h (by decide)) (fun d hd => by cases hd; rfl)
          · intro act W2 hk
            refine FlowG.does_intro rfl (fun Kq hK => ?_)
            have e0 : act.tmps[0]?.getD undef = .slice (some ⟨g, 0, none⟩) n cap := hk.o 0 (by kernel_rfl)
            clear hk
            go_simp
            exact hK _ _ (Ext.refl _) (fun h => absurd h (by decide)) (fun d hd => by cases hd; rfl)
          · intro act W2 hk
            refine FlowG.does_intro rfl (fun Kq hK => ?_)
            have e17 : act.tmps[17]?.getD undef = .int .i64 (k : Nat) := hk.o 17 (by kernel_rfl)
            clear hk
            go_simp
            exact hK _ _ (Ext.refl _) (fun h => absurd h (by decide)) (fun d hd => by cases hd; rfl)
          · intro act W2 hk
            refine FlowG.does_intro rfl (fun Kq hK => ?_)
            have e123 : act.tmps[123]?.getD undef = .slice (some ⟨g, 0, none⟩) n cap := hk.v 123 (by kernel_rfl)
            have e124 : act.tmps[124]?.getD undef = .int .i64 (k : Nat) := hk.v 124 (by kernel_rfl)
            clear hk
            go_simp
            exact hK _ _ (Ext.refl _) (fun h => absurd h (by decide)) (fun d hd => by cases hd; rfl)
          · intro act W2 hk
            refine FlowG.does_intro rfl (fun Kq hK => ?_)
            have e125 : act.tmps[125]?.getD undef = .pointer (some ⟨g, k * 6, none⟩) := hk.v 125 (by kernel_rfl)
            have g0 := Ext.cell ((Ext.drew V1).trans (hk.early (.inr (by kernel_rfl)))) ((hcB.out) 0 _ rfl)
            rw [Nat.add_zero] at g0
            have g1 := Ext.cell ((Ext.drew V1).trans (hk.early (.inr (by kernel_rfl)))) ((hcB.out) 1 _ rfl)
            have g2 := Ext.cell ((Ext.drew V1).trans (hk.early (.inr (by kernel_rfl)))) ((hcB.out) 2 _ rfl)
            have g3 := Ext.cell ((Ext.drew V1).trans (hk.early (.inr (by kernel_rfl)))) ((hcB.out) 3 _ rfl)
            have g4 := Ext.cell ((Ext.drew V1).trans (hk.early (.inr (by kernel_rfl)))) ((hcB.out) 4 _ rfl)
            have g5 := Ext.cell ((Ext.drew V1).trans (hk.early (.inr (by kernel_rfl)))) ((hcB.out) 5 _ rfl)
            clear hk
            go_simp
            exact hK _ _ (Ext.refl _) (fun h => absurd h (by decide)) (fun d hd => by cases hd; rfl)
          · intro act W2 hk
            refine FlowG.does_intro rfl (fun Kq hK => ?_)
            have e113 : act.tmps[113]?.getD undef = .slice (some ⟨g, 0, none⟩) n cap := hk.v 113 (by kernel_rfl)
            have e114 : act.tmps[114]?.getD undef = .int .i64 (k : Nat) := hk.v 114 (by kernel_rfl)
            clear hk
            go_simp
            exact hK _ _ (Ext.refl _) (fun h => absurd h (by decide)) (fun d hd => by cases hd; rfl)
          · intro act W2 hk
            refine FlowG.does_intro rfl (fun Kq hK => ?_)
            have e127 : act.tmps[127]?.getD undef = .pointer (some ⟨g, k * 6, none⟩) := hk.v 127 (by kernel_rfl)
            have e122 : act.tmps[122]?.getD undef = .agg #[.string z.1.name, .string z.1.key, .int .i64 z.1.kind, .int .u64 z.1.num, .string z.1.text, .slice z.2.1 z.1.kids.length z.2.2] := hk.v 122 (by kernel_rfl)
            have kW := (hrow'.out).ext ((Ext.drew V1).trans (hk.early (.inl rfl)))
            obtain ⟨v0, v1, v2, v3, v4, v5, z0, z1, z2, z3, z4, z5⟩ := rowI_old (i := k) kW (by rw [hln.out]; omega)
            have hfr := kW.free
            have hst := Hd.mk (rowI_store (i := k) kW (by rw [hln.out]; omega) z)
            clear hk kW
            go_simp
            exact hK undef _ (grown_upd hst.out.2) (fun _ => hst.out.1) (fun d hd => by cases hd)
          · intro act W2 hk
            refine FlowG.does_intro rfl (fun Kq hK => ?_)
            have e115 : act.tmps[115]?.getD undef = .slice (some ⟨g, 0, none⟩) n cap := hk.v 115 (by kernel_rfl)
            have e117 : act.tmps[117]?.getD undef = .int .i64 (k1 : Nat) := hk.v 117 (by kernel_rfl)
            clear hk
            go_simp
            exact hK _ _ (Ext.refl _) (fun h => absurd h (by decide)) (fun d hd => by cases hd; rfl)
        · intro act V2 he
          have hgV := Hd.mk (grown_trans (grown_ext (Ext.drew V1)) he.ext)
          obtain ⟨aP, hG1, _⟩ := he.post
          have kV := Hd.mk hG1
          obtain ⟨us, hA, hF⟩ := he.out [113, 114, 115, 116, 117, 118, 119, 120, 121, 122, 123, 124, 125, 126, 127, 128] (by kernel_rfl)
          simp only [Flow.fillL, List.contains_cons, List.contains_nil, Nat.reduceBEq, Bool.or_false, Bool.false_or, Bool.or_true, Bool.true_or, ↓reduceIte, Nat.reduceAdd, Bool.false_eq_true] at hA
          subst hA
          have f128 : us 128 = .pointer (some ⟨g, k1 * 6, none⟩) := hF 128 (by simp)
          have f126 : us 126 = .agg #[.string y.1.name, .string y.1.key, .int .i64 y.1.kind, .int .u64 y.1.num, .string y.1.text, .slice y.2.1 y.1.kids.length y.2.2] := hF 126 (by simp)
          clear hF he hG1
          rw [f128]
          clear f128
          rw [f126]
          clear f126
          refine (show wpList _ _ _ (⟨none, .store 54 (.tmp 128) (.tmp 126), _, _, _, none⟩ :: []) _ _ from ?_)
          have hj2 : k1 < (((pre ++ P ++ Q3) ++ z :: y :: (Q2 ++ post)).set k z).length := by rw [List.length_set, hln.out]; omega
          obtain ⟨v0, v1, v2, v3, v4, v5, z0, z1, z2, z3, z4, z5⟩ := rowI_old (i := k1) kV.out hj2
          have hfr := kV.out.free
          have hst := rowI_store (i := k1) kV.out hj2 y
          rw [hsw.out] at hst
          replace hst := Hd.mk hst
          clear hj2
          go_wp2_with fail
          go_roundg (k1 + 1)
          case measure => have := hq2.out; have := hk1.out; omega
          case rel => exact ⟨k1, Q3, z :: Q2, by have := hk1.out; omega, by have := hk1.out; omega, ⟨by omega⟩, by have h1 := hk1.out; refine congrArg (Value.int .i64) ?_; first | omega | (unfold wrap64; omega), ⟨by have h1 := hk.out; have h2 := hk1.out; simp at h1; omega⟩, ⟨by rw [← hQQ.out]; simp⟩, ⟨by simpa using hst.out.1⟩, ⟨grown_trans (grown_trans hgr.out hgV.out) (grown_upd hst.out.2)⟩⟩
    · have hge2 : ¬ (j : Int) < (k : Int) := by omega
      have hQ1 : Q1 = [] := List.eq_nil_of_length_eq_zero (by have := hk.out; omega)
      subst hQ1
      have hQ2 : Q2 = Q := by rw [← hQQ.out]; simp
      subst hQ2
      clear hQQl hge
      go_wp2_with fail
      refine bodyPost_ret (results_none rfl _ _ _) rfl ?_
      exact ⟨rfl, ⟨P ++ y :: Q2, hfin.out.1, hfin.out.2, by have := hsl.out; simp; omega, by simpa using hrow.out⟩, hgr.out⟩
end Go.Proofs.Ytgkgedjmnbjalaa
set_option linter.unusedSimpArgs false
namespace Go.Proofs.Ytgkgedjmnbjalaa
open Go.RowKit Go.Sort
theorem items_of {w : World} : ∀ (kids : List T) (css : List (List Value)) (P : Nat → Nat → Prop), css.length = kids.length → (∀ (i : Nat) k c, kids[i]? = some k → css[i]? = some c → RT (P i) w k c) → ∃ l : List It, l.map (·.1) = kids ∧ l.map cI = css ∧ ∀ (i : Nat) x, l[i]? = some x → RT (P i) w x.1 (cI x)
  | [], [], _, _, _ => ⟨[], rfl, rfl, fun i x h => by simp at h⟩
  | [], c :: css, _, h, _ => by simp at h
  | k :: kids, [], _, h, _ => by simp at h
  | k :: kids, c :: css, P, h, hr => by
    obtain ⟨l, h1, h2, h3⟩ := items_of kids css (fun i => P (i + 1)) (by simpa using h) (fun i k c hk hc => hr (i + 1) k c (by simpa using hk) (by simpa using hc))
    have h0 := hr 0 k c rfl rfl
    obtain ⟨K, kc, rfl, _⟩ := h0.row
    refine ⟨(k, K, kc) :: l, by simp [h1], by simp [h2]; rfl, fun i x hx => ?_⟩
    cases i with
    | zero => simp at hx; subst hx; exact h0
    | succ i => exact h3 i x (by simpa using hx)
theorem rrow_of_items {S : Nat → Prop} {w : World} {g kc : Nat} {l : List It} {sp : List Value} (h : Blk w g (rowI l ++ sp) 54) (hS : S g) (hc : l.length ≤ kc) (hl : l.length ≤ 1048576) (hr : ∀ x ∈ l, RT S w x.1 (cI x)) : RRow S w (some ⟨g, 0, none⟩) (l.map (·.1)) kc :=
  ⟨by rw [List.length_map]; exact hc, by rw [List.length_map]; exact hl, fun h => (by cases h), fun i k hi => by
    rw [List.getElem?_map] at hi
    obtain ⟨x, hx, rfl⟩ := Option.map_eq_some_iff.1 hi
    exact ⟨g, 0, cI x, rfl, hS, hr x (List.mem_of_getElem? hx), fun j v hv => by rw [Nat.zero_add]; exact rowI_cell h hx j v hv⟩⟩
theorem map_set_fst (l : List It) (j : Nat) (y : It) : (l.set j y).map (·.1) = (l.map (·.1)).set j y.1 := by rw [List.map_set]
theorem turn_next {kids : List T} {j : Nat} {k : T} (h : kids[j]? = some k) : ((kids.take j).map sortT ++ kids.drop j).set j (sortT k) = (kids.take (j + 1)).map sortT ++ kids.drop (j + 1) := by
  obtain ⟨hj, hk⟩ := List.getElem?_eq_some_iff.1 h
  have hl : ((kids.take j).map sortT).length = j := by rw [List.length_map, List.length_take]; omega
  rw [List.set_append_right _ _ (by omega), hl, Nat.sub_self, List.drop_eq_getElem_cons hj, List.set_cons_zero, List.take_add_one, h]
  simp
set_option maxRecDepth 100000 in
set_option maxHeartbeats 2000000 in
theorem ins_none (A : Option Addr) (c : Nat) (w : World) : Calls Try.prog 156 #[.slice A 0 c, .int .i64 0, .int .i64 0, .func (.func 116) #[] #[]] w fun e w' => e = .returned (.tuple #[]) ∧ w' = w := by
  go_enter Try.func156, Try.ntmps156
  go_wp2_with fail
  refine wp_loop_rounds 1 ?_
  rw [rounds_succ]
  go_wp2_with fail
  go_end0
  exact ⟨rfl, rfl⟩
set_option maxRecDepth 100000 in
set_option maxHeartbeats 2000000 in
theorem stable_none (A : Option Addr) (c : Nat) (w : World) : Calls Try.prog 146 #[.slice A 0 c, .int .i64 0, .func (.func 116) #[] #[]] w fun e w' => e = .returned (.tuple #[]) ∧ w' = w := by
  go_enter Try.func146, Try.ntmps146
  go_wp2_with fail
  refine wp_loop_rounds 1 ?_
  rw [rounds_succ]
  go_wp2_with fail
  refine Calls.mono (ins_none A c w) ?_
  rintro e w2 ⟨rfl, rfl⟩
  go_wp2_with fail
  refine wp_loop_rounds 1 ?_
  rw [rounds_succ]
  go_wp2_with fail
  go_end0
  exact ⟨rfl, rfl⟩
set_option maxRecDepth 100000 in
set_option maxHeartbeats 2000000 in
theorem sort_none (A : Option Addr) (c : Nat) (w : World) : Calls Try.prog 115 #[.slice A 0 c, .func (.func 116) #[] #[]] w fun e w' => e = .returned (.tuple #[]) ∧ w' = w := by
  go_enter Try.func115, Try.ntmps115
  go_wp2_with fail
  refine Calls.mono (stable_none A c w) ?_
  rintro e w2 ⟨rfl, rfl⟩
  go_wp2_with fail
  go_end0
  exact ⟨rfl, rfl⟩
set_option maxRecDepth 100000 in
set_option maxHeartbeats 2000000 in
theorem sort_func (L : Nat) (hL : L ≤ 1048576) (H : 20 < L → SymOK L) (l0 : List It) (sp : List Value) (g cap n : Nat) (w : World) (hb : Blk w g (rowI l0 ++ sp) 54) (hn : n = l0.length) (hcap : n ≤ cap) (hnL : n ≤ L) :
    Calls Try.prog 115 #[.slice (some ⟨g, 0, none⟩) n cap, .func (.func 116) #[] #[]] w fun e w' => e = .returned (.tuple #[]) ∧ Blk w' g (rowI (isortG ltI l0) ++ sp) 54 ∧ w.grownBy w' (some g) := by
  have hc := Hd.mk (stable_sort L hL H l0 sp g cap n w hb hn hcap hnL)
  clear hb hn hcap hnL
  go_enter Try.func115, Try.ntmps115
  go_wp2_with fail
  refine Calls.mono hc.out ?_
  rintro e w2 ⟨rfl, h1, h2⟩
  replace h1 := Hd.mk h1
  replace h2 := Hd.mk h2
  go_wp2_with fail
  go_end0
  exact ⟨rfl, h1.out, h2.out⟩
set_option maxRecDepth 100000 in
set_option maxHeartbeats 1500000 in
theorem tree_sorted (L : Nat) (hL : L ≤ 1048576) (H : 20 < L → SymOK L) : ∀ (N : Nat) (t : T) (S : Nat → Prop) (w : World) (c : List Value), t.deep ≤ N → t.size ≤ L → RT S w t c → Calls Try.prog 61 #[.agg c.toArray] w (Ret (SortPost t w))
  | 0, t, S, w, c, hn, _, _ => by rw [t.deep_eq] at hn; omega
  | N + 1, t, S, w, c, hn, hsz, h => by
    obtain ⟨K0, k0, rfl, hrow0⟩ := h.row
    have kr := Hd.mk h
    have ih := Hd.mk (tree_sorted L hL H N)
    have hkL : t.kids.length < L := by have h1 := sizeL_len t.kids; rw [t.size_eq] at hsz; omega
    have hkids := Hd.mk (fun (j : Nat) k (hk : t.kids[j]? = some k) => (⟨by have := kid_deep hk; omega, by have := kid_size hk; omega⟩ : k.deep ≤ N ∧ k.size ≤ L))
    have hcl := Hd.mk (fun W (hx : Ext w W) => own_clone t.deep t S W _ (Nat.le_refl _) (h.ext hx))
    clear h hrow0 hn hsz kr
    replace H := Hd.mk H
    simp only [cT] at hcl ⊢
    go_enter Try.func61, Try.ntmps61
    go_wp2_with fail
    have kx := Hd.mk ((Ext.alloc w (.cells #[.string t.name, .string t.key, .int .i64 t.kind, .int .u64 t.num, .string t.text, .slice K0 t.kids.length k0] 54)).trans (Ext.alloc _ (.cells #[.string ⟨#[]⟩, .string ⟨#[]⟩, .int .i64 0, .int .u64 0, .string ⟨#[]⟩, .slice none 0 0] 54)))
    have kA := Hd.mk ((Blk.new w #[.string t.name, .string t.key, .int .i64 t.kind, .int .u64 t.num, .string t.text, .slice K0 t.kids.length k0] 54).alloc (.cells #[.string ⟨#[]⟩, .string ⟨#[]⟩, .int .i64 0, .int .u64 0, .string ⟨#[]⟩, .slice none 0 0] 54))
    have kR := Hd.mk (Blk.new2 w (.cells #[.string t.name, .string t.key, .int .i64 t.kind, .int .u64 t.num, .string t.text, .slice K0 t.kids.length k0] 54) #[.string ⟨#[]⟩, .string ⟨#[]⟩, .int .i64 0, .int .u64 0, .string ⟨#[]⟩, .slice none 0 0] 54)
    have hpW := Hd.mk (show w.heap.size + 1 < ((w.alloc _).alloc _).heap.size from kR.out.lt)
    generalize (w.alloc _).alloc _ = W at *
    generalize hp : w.heap.size = p at *
    replace hp := Hd.mk hp
    have gA := kA.out.cell
    go_wp2_with fail
    refine Calls.mono (hcl.out _ kx.out) ?_
    rintro e w1 ⟨_, rfl, c1, rfl, ho, hx⟩
    obtain ⟨K, kc, css, Si, rfl, hro⟩ := ho.row
    replace kx := Hd.mk (kx.out.trans hx)
    replace kA := Hd.mk (kA.out.ext hx)
    replace kR := Hd.mk (kR.out.ext hx)
    have hWs := hx.size
    clear hx ho hcl gA
    simp only [cT]
    obtain ⟨hkc, hkm, hknul, hkown⟩ := own_cap hro.own
    have gA := kA.out.cell
    have fA := kA.out.free
    by_cases hz : t.kids.length = 0
    · rw [hz] at hkc ⊢
      have hn0 := List.eq_nil_of_length_eq_zero hz
      have hsrt : sortT t = t := by rw [sortT_eq, hn0, sortL_nil, ← hn0]; exact wk_self t
      have hrr0 : ∀ W, RT (fun b => w.heap.size ≤ b) W t [.string t.name, .string t.key, .int .i64 t.kind, .int .u64 t.num, .string t.text, .slice K 0 kc] := fun W => by
        have h1 : RRow (fun b => w.heap.size ≤ b) W K t.kids kc := by rw [hn0]; exact RRow.nil _ _ _ _ hknul
        have h0 := RT.of_row h1
        rw [hz] at h0
        exact h0
      replace hrr0 := Hd.mk hrr0
      replace hsrt := Hd.mk hsrt
      clear hn0
      go_wp2_with ((with_reducible refine stop_at (.load 52 (.tmp 7)) ?_))
      refine Stop.mk ?_
      have hu := Hd.mk ((((((Upd.setCell w1 ⟨p, 0, none⟩ (.string t.name)).trans (Upd.setCell _ ⟨p, 1, none⟩ (.string t.key))).trans (Upd.setCell _ ⟨p, 2, none⟩ (.int .i64 t.kind))).trans (Upd.setCell _ ⟨p, 3, none⟩ (.int .u64 t.num))).trans (Upd.setCell _ ⟨p, 4, none⟩ (.string t.text))).trans (Upd.setCell _ ⟨p, 5, none⟩ (.slice K 0 kc)))
      have kA2 := Hd.mk (show Blk _ p [.string t.name, .string t.key, .int .i64 t.kind, .int .u64 t.num, .string t.text, .slice K 0 kc] 54 from ((((((kA.out.setCell 0 (.string t.name)).setCell 1 (.string t.key)).setCell 2 (.int .i64 t.kind)).setCell 3 (.int .u64 t.num)).setCell 4 (.string t.text)).setCell 5 (.slice K 0 kc)))
      generalize ((((((w1.setCell _ _).setCell _ _).setCell _ _).setCell _ _).setCell _ _).setCell _ _) = w2 at *
      replace kR := Hd.mk (hu.out.blk (by show p + 1 ≠ p; omega) kR.out)
      replace kx := Hd.mk (show Ext w w2 from Below.trans kx.out (hu.out.below (Nat.le_of_eq hp.out)))
      clear hu gA fA kA
      have gA := kA2.out.cell
      go_wp2_with fail
      refine wp_loop_rounds 1 ?_
      rw [rounds_succ]
      go_wp2_with fail
      refine Calls.mono (sort_none K kc w2) ?_
      rintro e w3 ⟨rfl, rfl⟩
      have gR := kR.out.cell
      have fR := kR.out.free
      go_wp2_with fail
      have hu := Hd.mk ((((((Upd.setCell w3 ⟨p + 1, 0, none⟩ (.string t.name)).trans (Upd.setCell _ ⟨p + 1, 1, none⟩ (.string t.key))).trans (Upd.setCell _ ⟨p + 1, 2, none⟩ (.int .i64 t.kind))).trans (Upd.setCell _ ⟨p + 1, 3, none⟩ (.int .u64 t.num))).trans (Upd.setCell _ ⟨p + 1, 4, none⟩ (.string t.text))).trans (Upd.setCell _ ⟨p + 1, 5, none⟩ (.slice K 0 kc)))
      exact ret_box rfl (p + 1) _ 54 _ ((((((kR.out.setCell 0 (.string t.name)).setCell 1 (.string t.key)).setCell 2 (.int .i64 t.kind)).setCell 3 (.int .u64 t.num)).setCell 4 (.string t.text)).setCell 5 (.slice K 0 kc)) rfl rfl Try.underlying54 rfl size54
        ⟨_, rfl, _, rfl, by rw [hsrt.out]; exact hrr0.out _, Below.trans kx.out (hu.out.below (by rw [hp.out]; show p ≤ p + 1; omega))⟩
    · obtain ⟨g, cap9, sp, hv, _, hbk, _, _, _⟩ := own_form hro.own (by omega)
      simp only [Value.slice.injEq] at hv
      obtain ⟨rfl, _, hc9⟩ := hv
      subst hc9
      have hgS := (hro.g g rfl)
      obtain ⟨l0, hl1, hl2, hl3⟩ := items_of t.kids css Si hro.hl (fun i k c hk hc => (hro.each i k c hk hc).rt)
      have hll : l0.length = t.kids.length := by rw [← hl1, List.length_map]
      have hg0 : W.heap.size ≤ g := hgS.1.1
      have hb0 : Blk w1 g (rowI l0 ++ sp) 54 := by unfold rowI; rw [hl2]; exact hbk
      have hr0 : ∀ x ∈ l0, RT (fun b => b ≠ g ∧ p + 2 ≤ b) w1 x.1 (cI x) := fun x hx => by
        obtain ⟨i, hi⟩ := List.getElem?_of_mem hx
        refine (hl3 i x hi).mono fun b _ hb => ⟨fun e => hgS.2 i (e ▸ hb), ?_⟩
        have h1 := (hro.sub i b hb).1
        have h2 := hpW.out
        omega
      replace hb0 := Hd.mk hb0
      replace hr0 := Hd.mk hr0
      have hgp := Hd.mk (show p + 2 ≤ g by have := hpW.out; omega)
      have hI0 := Hd.mk (show l0.map (·.1) = (t.kids.take 0).map sortT ++ t.kids.drop 0 by rw [hl1]; rfl)
      have hkb := hro.hb
      clear hro hgS hl1 hl2 hl3 hbk hkown hll hg0 hknul
      go_wp2_with ((with_reducible refine stop_at (.load 52 (.tmp 7)) ?_))
      refine Stop.mk ?_
      have hu := Hd.mk ((((((Upd.setCell w1 ⟨p, 0, none⟩ (.string t.name)).trans (Upd.setCell _ ⟨p, 1, none⟩ (.string t.key))).trans (Upd.setCell _ ⟨p, 2, none⟩ (.int .i64 t.kind))).trans (Upd.setCell _ ⟨p, 3, none⟩ (.int .u64 t.num))).trans (Upd.setCell _ ⟨p, 4, none⟩ (.string t.text))).trans (Upd.setCell _ ⟨p, 5, none⟩ (.slice (some ⟨g, 0, none⟩) t.kids.length kc)))
      have kA2 := Hd.mk (show Blk _ p [.string t.name, .string t.key, .int .i64 t.kind, .int .u64 t.num, .string t.text, .slice (some ⟨g, 0, none⟩) t.kids.length kc] 54 from ((((((kA.out.setCell 0 (.string t.name)).setCell 1 (.string t.key)).setCell 2 (.int .i64 t.kind)).setCell 3 (.int .u64 t.num)).setCell 4 (.string t.text)).setCell 5 (.slice (some ⟨g, 0, none⟩) t.kids.length kc)))
      generalize ((((((w1.setCell _ _).setCell _ _).setCell _ _).setCell _ _).setCell _ _).setCell _ _) = w2 at *
      replace kR := Hd.mk (hu.out.blk (by show p + 1 ≠ p; omega) kR.out)
      replace kx := Hd.mk (show Ext w w2 from Below.trans kx.out (hu.out.below (Nat.le_of_eq hp.out)))
      replace hb0 := Hd.mk (hu.out.blk (by have := hgp.out; show g ≠ p; omega) hb0.out)
      replace hr0 := Hd.mk (fun x hx => (hr0.out x hx).upd hu.out (fun h => by have h2 : p + 2 ≤ p := h.2; omega))
      clear hu gA fA kA
      have gA := kA2.out.cell
      go_wp2_with fail
      clear gA
      go_loopg [10] (t.kids.length + 1) (fun q i wr => ∃ j : Nat, j ≤ t.kids.length ∧ Hd (q = t.kids.length + 1 - j) ∧ i = .int .i64 j ∧ ∃ l : List It, Hd (l.map (·.1) = (t.kids.take j).map sortT ++ t.kids.drop j) ∧ Hd (Blk wr g (rowI l ++ sp) 54) ∧ Hd (∀ x ∈ l, RT (fun b => b ≠ g ∧ p + 2 ≤ b) wr x.1 (cI x)) ∧ Hd (Blk wr p [.string t.name, .string t.key, .int .i64 t.kind, .int .u64 t.num, .string t.text, .slice (some ⟨g, 0, none⟩) t.kids.length kc] 54) ∧ Hd (Blk wr (p + 1) [.string ⟨#[]⟩, .string ⟨#[]⟩, .int .i64 0, .int .u64 0, .string ⟨#[]⟩, .slice none 0 0] 54) ∧ Hd (Ext w wr))
      case atStart => exact ⟨0, by omega, ⟨by omega⟩, rfl, l0, hI0, hb0, hr0, kA2, kR, kx⟩
      case round =>
      clear hI0 hb0 hr0 kA2 kR kx
      obtain ⟨j, hj, hq, rfl, l, hI, hrow, hrt, kA, kR, kx⟩ := hrel
      have hll : l.length = t.kids.length := by
        have := congrArg List.length hI.out
        simp only [List.length_map, List.length_append, List.length_take, List.length_drop] at this
        omega
      replace hll := Hd.mk hll
      by_cases hlt : j < t.kids.length
      · have hk1 := List.getElem?_eq_getElem hlt
        generalize t.kids[j] = k at hk1
        have hjl : j < l.length := by rw [hll.out]; exact hlt
        have hx1 := List.getElem?_eq_getElem hjl
        generalize l[j] = x at hx1
        have hxk : x.1 = k := by
          have h1 := congrArg (fun z => z[j]?) hI.out
          simp only [List.getElem?_map, hx1, Option.map_some] at h1
          rw [List.getElem?_append_right (by rw [List.length_map, List.length_take]; omega), List.length_map, List.length_take, List.getElem?_drop, show j + (j - min j t.kids.length) = j by omega, hk1] at h1
          exact Option.some.inj h1
        have hnx := Hd.mk (turn_next hk1)
        obtain ⟨hd9, hs9⟩ := hkids.out j k hk1
        rw [← hxk] at hd9 hs9 hnx
        have hrx := Hd.mk (hrt.out x (List.mem_of_getElem? hx1))
        have hcx := rowI_cell hrow.out hx1
        simp only [cI] at hcx
        obtain ⟨e0, e1, e2, e3, e4, e5⟩ := six (Ext.refl wr) hcx
        have hlt0 : (j : Int) < (t.kids.length : Int) := by omega
        have hrec := Hd.mk (fun W (hx : Ext wr W) => (show Calls Try.prog 61 #[.agg (cI x).toArray] W (Ret fun w' v => ∃ c : List Value, v = .agg c.toArray ∧ RT (fun b => W.heap.size ≤ b) w' (sortT x.1) c ∧ Ext W w') from ih.out x.1 _ W _ hd9 hs9 (hrx.out.ext hx)))
        simp only [cI] at hrec
        have hgl := Hd.mk hrow.out.lt
        clear hcx hk1 hxk hd9 hs9 hx1
        replace hjl := Hd.mk hjl
        generalize sortT x.1 = y1 at *
        go_wp2_with fail
        have hxb := Hd.mk (Ext.alloc wr (.cells #[.string x.1.name, .string x.1.key, .int .i64 x.1.kind, .int .u64 x.1.num, .string x.1.text, .slice x.2.1 x.1.kids.length x.2.2] 54))
        have kB := Hd.mk (Blk.new wr #[.string x.1.name, .string x.1.key, .int .i64 x.1.kind, .int .u64 x.1.num, .string x.1.text, .slice x.2.1 x.1.kids.length x.2.2] 54)
        replace kA := Hd.mk (kA.out.ext hxb.out)
        replace kR := Hd.mk (kR.out.ext hxb.out)
        replace kx := Hd.mk (kx.out.trans hxb.out)
        replace hrow := Hd.mk (hrow.out.ext hxb.out)
        replace hrt := Hd.mk (fun z hz => (hrt.out z hz).ext hxb.out)
        replace hrec := Hd.mk (fun W (hx : Ext _ W) => hrec.out W (hxb.out.trans hx))
        replace hgl := Hd.mk (Nat.lt_of_lt_of_le hgl.out hxb.out.size)
        clear e0 e1 e2 e3 e4 e5 hxb hrx
        generalize wr.heap.size = pB at *
        generalize wr.alloc _ = V at *
        refine Flow.wp_region_flow_l (fun qq => match qq with
          | 15 => SP.eq (.pointer (some ⟨p, 5, none⟩))
          | 16 => SP.eq (.slice (some ⟨g, 0, none⟩) t.kids.length kc)
          | 17 => SP.eq (.int .i64 (j : Nat))
          | 18 => SP.eq (.agg #[.string x.1.name, .string x.1.key, .int .i64 x.1.kind, .int .u64 x.1.num, .string x.1.text, .slice x.2.1 x.1.kids.length x.2.2])
          | 19 => spT y1 V.heap.size
          | 20 => SP.eq (.pointer (some ⟨g, j * 6, none⟩))
          | _ => SP.any) 6 (by kernel_rfl) 26 rfl (by kernel_rfl) ?_ ?_
        · skip
          refine ⟨?_, ?_, ?_, ?_, ?_, ?_, trivial⟩
          · intro act W2 hk
            refine Flow.does_intro rfl (fun Kq hK => ?_)
            have e1 : act.tmps[1]?.getD undef = .pointer (some ⟨p, 0, none⟩) := hk.o 1 (by kernel_rfl)
            clear hk
            go_simp
            exact hK _ _ (Ext.refl _) (fun d hd => by cases hd; rfl)
          · intro act W2 hk
            refine Flow.does_intro rfl (fun Kq hK => ?_)
            have e15 : act.tmps[15]?.getD undef = .pointer (some ⟨p, 5, none⟩) := hk.v 15 (by kernel_rfl)
            have g := ((kA.out).ext ((Ext.drew V).trans hk.ext)).cell
            clear hk
            go_simp
            exact hK _ _ (Ext.refl _) (fun d hd => by cases hd; rfl)
          · intro act W2 hk
            refine Flow.does_intro rfl (fun Kq hK => ?_)
            have e3 : act.tmps[3]?.getD undef = .int .i64 (j : Nat) := hk.o 3 (by kernel_rfl)
            clear hk
            go_simp
            exact hK _ _ (Ext.refl _) (fun d hd => by cases hd; rfl)
          · intro act W2 hk
            refine Flow.does_intro rfl (fun Kq hK => ?_)
            have e4 : act.tmps[4]?.getD undef = .pointer (some ⟨pB, 0, none⟩) := hk.o 4 (by kernel_rfl)
            have g := ((kB.out).ext ((Ext.drew V).trans hk.ext)).cell
            clear hk
            go_simp
            exact hK _ _ (Ext.refl _) (fun d hd => by cases hd; rfl)
          · intro act W2 hk
            refine Flow.does_intro rfl (fun Kq hK => ?_)
            have e18 : act.tmps[18]?.getD undef = .agg #[.string x.1.name, .string x.1.key, .int .i64 x.1.kind, .int .u64 x.1.num, .string x.1.text, .slice x.2.1 x.1.kids.length x.2.2] := hk.v 18 (by kernel_rfl)
            have hx0 := Hd.mk ((Ext.drew V).trans hk.ext)
            have hsz0 := hx0.out.size
            clear hk
            go_simp
            refine Calls.mono (hrec.out _ hx0.out) ?_
            rintro e W3 ⟨_, rfl, c9, rfl, hr9, hx⟩
            exact hK _ _ hx (fun d hd => by cases hd; exact ⟨c9, rfl, hr9.mono (fun b _ hb => Nat.le_trans hsz0 hb)⟩)
          · intro act W2 hk
            refine Flow.does_intro rfl (fun Kq hK => ?_)
            have e16 : act.tmps[16]?.getD undef = .slice (some ⟨g, 0, none⟩) t.kids.length kc := hk.v 16 (by kernel_rfl)
            have e17 : act.tmps[17]?.getD undef = .int .i64 (j : Nat) := hk.v 17 (by kernel_rfl)
            have hlt2 := hlt0
            clear hk
            go_simp
            exact hK _ _ (Ext.refl _) (fun d hd => by cases hd; rfl)
        · intro act W2 he
          have hxW2 := Hd.mk ((Ext.drew V).trans he.ext)
          obtain ⟨us, hA, hF⟩ := he.out [15, 16, 17, 18, 19, 20] (by kernel_rfl)
          simp only [Flow.fillL, List.contains_cons, List.contains_nil, Nat.reduceBEq, Bool.or_false, Bool.false_or, Bool.or_true, Bool.true_or, ↓reduceIte, Nat.reduceAdd, Bool.false_eq_true] at hA
          subst hA
          have f19 : (spT y1 V.heap.size).p (us 19) W2 := hF 19 (by simp)
          have f20 : us 20 = .pointer (some ⟨g, j * 6, none⟩) := hF 20 (by simp)
          clear hF he
          rw [f20]
          clear f20
          obtain ⟨c9, ec, hr9⟩ := (f19 : (spT _ _).p _ _)
          generalize us 15 = u15 at *
          generalize us 16 = u16 at *
          generalize us 17 = u17 at *
          generalize us 18 = u18 at *
          generalize us 19 = u19 at *
          subst ec
          obtain ⟨K2, kc2, rfl, _⟩ := hr9.row
          replace hr9 := Hd.mk hr9
          replace hrow := Hd.mk (hrow.out.ext hxW2.out)
          replace kA := Hd.mk (kA.out.ext hxW2.out)
          replace kR := Hd.mk (kR.out.ext hxW2.out)
          replace kx := Hd.mk (kx.out.trans hxW2.out)
          replace hrt := Hd.mk (fun z hz => (hrt.out z hz).ext hxW2.out)
          obtain ⟨v0, v1, v2, v3, v4, v5, z0, z1, z2, z3, z4, z5⟩ := rowI_old hrow.out hjl.out
          have hfr := hrow.out.free
          have hst := Hd.mk (rowI_store hrow.out hjl.out (y1, K2, kc2))
          simp only [cT]
          refine (show wpList _ _ _ (⟨none, .store 54 (.tmp 20) (.tmp 19), _, _, _, none⟩ :: []) _ _ from ?_)
          clear hrec kB hxW2
          go_wp2_with fail
          go_roundg (t.kids.length + 1 - (j + 1))
          case measure => have := hq.out; omega
          case rel => exact ⟨j + 1, by omega, ⟨rfl⟩, by go_num, l.set j (y1, K2, kc2), ⟨by rw [map_set_fst, hI.out]; exact hnx.out⟩, ⟨hst.out.1⟩, ⟨fun z hz => by
            rcases List.mem_or_eq_of_mem_set hz with hz | hz
            · exact (hrt.out z hz).upd hst.out.2 (fun h => h.1 rfl)
            · subst hz; exact (hr9.out.mono (S' := fun b => b ≠ g ∧ p + 2 ≤ b) (fun b _ hb => by have := hgl.out; have := hgp.out; exact ⟨by omega, by omega⟩)).upd hst.out.2 (fun h => h.1 rfl)⟩, ⟨hst.out.2.blk (by have := hgp.out; omega) kA.out⟩, ⟨hst.out.2.blk (by have := hgp.out; omega) kR.out⟩, ⟨Below.trans kx.out (hst.out.2.below (by have := hgp.out; rw [hp.out]; omega))⟩⟩
      · have hjl : j = t.kids.length := by omega
        have hI2 := hI.out
        rw [hjl, List.take_length, List.drop_length, List.append_nil] at hI2
        have hge : ¬ (j : Int) < (t.kids.length : Int) := by omega
        have gA := kA.out.cell
        have hll2 := hll.out.symm
        have hc := Hd.mk (sort_func L hL H.out l sp g kc t.kids.length wr hrow.out hll2 hkc (by omega))
        clear hll2 hjl
        replace hI2 := Hd.mk hI2
        go_wp2_with fail
        refine Calls.mono hc.out ?_
        rintro e w3 ⟨rfl, hrow3, hgr3⟩
        have kA3 := Hd.mk (show Blk w3 p _ 54 from (hgr3.block p kA.out.lt (by have := hgp.out; intro h; injection h with h; omega)).trans kA.out)
        have kR3 := Hd.mk (show Blk w3 (p + 1) _ 54 from (hgr3.block (p + 1) kR.out.lt (by have := hgp.out; intro h; injection h with h; omega)).trans kR.out)
        have kx3 := Hd.mk (show Ext w w3 from Below.grown kx.out hgr3 (by have := kx.out.size; exact this) (fun k hk => by injection hk with hk; have := hgp.out; rw [hp.out]; omega))
        have hmem := fun x (hx : x ∈ isortG ltI l) => hrt.out x ((isortG_srt l).2.symm.mem hx)
        have hrt3 : ∀ x ∈ isortG ltI l, RT (fun b => b ≠ g ∧ p + 2 ≤ b) w3 x.1 (cI x) := fun x hx => (hmem x hx).keep (fun b off v hb hcell => ⟨hb, by rw [← hcell]; exact World.cell?_of_block (hgr3.block b (World.block_lt_of_cell? wr _ hcell) (fun h => hb.1 (by injection h with h)))⟩)
        have hlen3 : (isortG ltI l).length = t.kids.length := by rw [isortG_len, hll.out]
        have hkids3 := Hd.mk (show (isortG ltI l).map (·.1) = isortG lessT (t.kids.map sortT) by rw [← hI2.out]; exact isortG_map (lt := ltI) (lt' := lessT) (fun x y => rfl) l)
        have hrr := Hd.mk (rrow_of_items (S := fun b => p + 2 ≤ b) (kc := kc) hrow3 hgp.out (by rw [hlen3]; exact hkc) (by rw [hlen3]; exact hkb) (fun x hx => (hrt3 x hx).mono (fun b _ hb => hb.2)))
        have hX := Hd.mk (show sortT t = t.wk ((isortG ltI l).map (·.1)) by rw [sortT_isort, hkids3.out])
        have hXl := Hd.mk (show ((isortG ltI l).map (·.1)).length = t.kids.length by rw [List.length_map, hlen3])
        clear hrt3 hrow3 hkids3 hlen3
        generalize (isortG ltI l).map (·.1) = X at *
        have hfin : Hd (∀ W', RRow (fun b => w.heap.size ≤ b) W' (some ⟨g, 0, none⟩) X kc → RT (fun b => w.heap.size ≤ b) W' (sortT t) [.string t.name, .string t.key, .int .i64 t.kind, .int .u64 t.num, .string t.text, .slice (some ⟨g, 0, none⟩) t.kids.length kc]) := ⟨fun W' h => by
          rw [hX.out]
          have h9 := RT.of_row (t := t.wk X) h
          have e9 : (t.wk X).kids.length = t.kids.length := hXl.out
          rw [e9] at h9
          exact h9⟩
        clear hgr3 hc hrow hrt hmem kA kR kx gA hI hI2
        have gA := kA3.out.cell
        have gR := kR3.out.cell
        have fR := kR3.out.free
        go_wp2_with fail
        have hu := Hd.mk ((((((Upd.setCell w3 ⟨p + 1, 0, none⟩ (.string t.name)).trans (Upd.setCell _ ⟨p + 1, 1, none⟩ (.string t.key))).trans (Upd.setCell _ ⟨p + 1, 2, none⟩ (.int .i64 t.kind))).trans (Upd.setCell _ ⟨p + 1, 3, none⟩ (.int .u64 t.num))).trans (Upd.setCell _ ⟨p + 1, 4, none⟩ (.string t.text))).trans (Upd.setCell _ ⟨p + 1, 5, none⟩ (.slice (some ⟨g, 0, none⟩) t.kids.length kc)))
        exact ret_box rfl (p + 1) _ 54 _ ((((((kR3.out.setCell 0 (.string t.name)).setCell 1 (.string t.key)).setCell 2 (.int .i64 t.kind)).setCell 3 (.int .u64 t.num)).setCell 4 (.string t.text)).setCell 5 (.slice (some ⟨g, 0, none⟩) t.kids.length kc)) rfl rfl Try.underlying54 rfl size54
          ⟨_, rfl, _, rfl, by
            exact hfin.out _ (hrr.out.keep (S' := fun b => w.heap.size ≤ b) (fun b off v hb hc => ⟨by have := hb; rw [hp.out]; omega, by rw [← hc]; exact World.cell?_of_block (hu.out.block b (by show b ≠ p + 1; omega))⟩)), Below.trans kx3.out (hu.out.below (by rw [hp.out]; show p ≤ p + 1; omega))⟩
end Go.Proofs.Ytgkgedjmnbjalaa
set_option linter.unusedSimpArgs false
namespace Go.Proofs.Ytgkgedjmnbjalaa
open Go.RowKit Go.Sort
def Fre (w : World) (b : Nat) : Prop := ∃ cs, Blk w b cs 54
theorem Fre.same {w w' : World} {b : Nat} (h : Fre w b) (hk : w'.heap[b]? = w.heap[b]?) : Fre w' b := let ⟨cs, h⟩ := h; ⟨cs, hk.trans h⟩
abbrev RF (S : Nat → Prop) (w : World) (t : T) (c : List Value) : Prop := RT (fun b => S b ∧ Fre w b) w t c
theorem RF.keep {S : Nat → Prop} {w w' : World} {t : T} {c : List Value} (h : RF S w t c) (hk : ∀ b, b < w.heap.size → S b → w'.heap[b]? = w.heap[b]?) : RF S w' t c :=
  RT.keep (fun b off v hb hc => by
    have hlt := World.block_lt_of_cell? w _ hc
    refine ⟨⟨hb.1, hb.2.same (hk b hlt hb.1)⟩, ?_⟩
    rw [← hc]
    exact World.cell?_of_block (hk b hlt hb.1)) h
theorem RF.ext {S : Nat → Prop} {w w' : World} {t : T} {c : List Value} (h : RF S w t c) (hx : Ext w w') : RF S w' t c := h.keep fun b hb _ => hx.block b hb
theorem RF.upd {S : Nat → Prop} {w w' : World} {g : Nat} {t : T} {c : List Value} (h : RF S w t c) (hu : Upd w w' g) (hs : ¬ S g) : RF S w' t c := h.keep fun b _ hb => hu.block b (fun e => hs (e ▸ hb))
theorem RF.mono {S S' : Nat → Prop} {w : World} {t : T} {c : List Value} (h : RF S w t c) (hs : ∀ b, b < w.heap.size → S b → S' b) : RF S' w t c := RT.mono (fun b hb h => ⟨hs b hb h.1, h.2⟩) h
theorem OT.rf {S : Nat → Prop} {w : World} {t : T} {c : List Value} (h : OT S w t c) : RF S w t c := by
  induction h with
  | mk S w name key kind num text kids K kc css Si hl h6 hb hown hg hS hd hr ih =>
    obtain ⟨h1, _, h2, _⟩ := own_cap hown
    refine .mk name key kind num text kids K kc css hl h6 (fun hn => ?_) (fun i k c hk hc => (ih i k c hk hc).mono fun b _ hb => hS i b hb) ⟨h1, hb, h2⟩
    obtain ⟨g, cap, sp, hv, _, hbk, _⟩ := own_form hown (by cases kids with | nil => exact absurd rfl hn | cons x l => simp)
    simp only [Value.slice.injEq] at hv
    obtain ⟨rfl, _, _⟩ := hv
    refine ⟨g, 0, rfl, ⟨(hg g rfl).1, _, hbk⟩, fun j v hv => ?_⟩
    rw [Nat.zero_add, hbk.cell, List.getElem?_append_left (List.getElem?_eq_some_iff.1 hv).1]
    exact hv
def SortPostF (t : T) (w w' : World) (v : Value) : Prop := ∃ c : List Value, v = .agg c.toArray ∧ RF (fun b => w.heap.size ≤ b) w' (sortT t) c ∧ Ext w w'
end Go.Proofs.Ytgkgedjmnbjalaa
set_option linter.unusedSimpArgs false
namespace Go.Proofs.Ytgkgedjmnbjalaa
open Go.RowKit Go.Sort
theorem merge_plan {pre s1 s2 post l : List It} {a m b mid d lo hi e p : Nat} (hl : l = pre ++ (s1 ++ s2) ++ post) (ha : a = pre.length) (hm : m = a + s1.length) (hb : b = m + s2.length) (h1 : SrtLe s1) (h2 : SrtLe s2)
    (hd1 : lo ≤ d) (hd2 : d ≤ hi) (he : e + d = mid + m) (hp : p + 1 = mid + m) (ha2 : a ≤ lo) (hh1 : hi ≤ m) (hh2 : hi ≤ mid) (hlb : mid + m ≤ lo + b) (hlo : lo = a ∨ lo + b = mid + m) (hhi : hi = m ∨ hi = mid)
    (hF : ∀ c q x y, lo ≤ c → c < d → q + c = p → l[c]? = some x → l[q]? = some y → ltI y x = false)
    (hT : ∀ c q x y, d ≤ c → c < hi → q + c = p → l[c]? = some x → l[q]? = some y → ltI y x = true) :
    ∃ A U V B, s1 = A ++ U ∧ s2 = V ++ B ∧ A.length = d - a ∧ U.length = m - d ∧ V.length = mid - d ∧ B.length = b - e ∧ (∀ v ∈ V, ∀ u ∈ U, ltI v u = true) ∧ (∀ x ∈ A, ∀ y ∈ B, ltI y x = false) := by
  obtain ⟨A, U, hAU, hA, hU⟩ := split_at (X := s1) (k := d - a) (by omega)
  obtain ⟨V, B, hVB, hV, hB⟩ := split_at (X := s2) (k := mid - d) (by omega)
  have i1 : SrtIn l a m := by
    have h := srt_in (pre := pre) (s := s1) (post := s2 ++ post) h1
    rw [← ha, ← hm] at h
    rw [hl]
    simpa using h
  have i2 : SrtIn l m b := by
    have h := srt_in (pre := pre ++ s1) (s := s2) (post := post) h2
    rw [List.length_append, ← ha, ← hm, ← hb] at h
    rw [hl]
    simpa using h
  have hall : l.length = b + post.length := by rw [hl]; simp only [List.length_append]; omega
  have hat : ∀ (P X Q : List It) (k0 : Nat) (z : It), l = P ++ X ++ Q → P.length = k0 → z ∈ X → ∃ k, k0 ≤ k ∧ k < k0 + X.length ∧ l[k]? = some z := fun P X Q k0 z e hk hz => by
    obtain ⟨k, hk2⟩ := List.getElem?_of_mem hz
    have hkl := (List.getElem?_eq_some_iff.1 hk2).1
    refine ⟨k0 + k, by omega, by omega, ?_⟩
    rw [e, List.append_assoc, List.getElem?_append_right (by omega), hk, show k0 + k - k0 = k by omega, List.getElem?_append_left hkl]
    exact hk2
  refine ⟨A, U, V, B, hAU, hVB, hA, by omega, hV, by omega, fun v hv u hu => ?_, fun x hx y hy => ?_⟩
  · have hU0 : 0 < U.length := by cases U with | nil => cases hu | cons _ _ => simp
    have hV0 : 0 < V.length := by cases V with | nil => cases hv | cons _ _ => simp
    obtain ⟨ku, u1, u2, u3⟩ := hat (pre ++ A) U (s2 ++ post) d u (by rw [hl, hAU]; simp) (by rw [List.length_append, hA]; omega) hu
    obtain ⟨kv, v1, v2, v3⟩ := hat (pre ++ s1) V (B ++ post) m v (by rw [hl, hVB]; simp) (by rw [List.length_append]; omega) hv
    have hd : d < l.length := by omega
    have hq : e - 1 < l.length := by omega
    have e1 := List.getElem?_eq_getElem hd
    have e2 := List.getElem?_eq_getElem hq
    have t := hT d (e - 1) _ _ (Nat.le_refl _) (by omega) (by omega) e1 e2
    have t1 := i2 kv (e - 1) v _ v1 (by omega) (by omega) v3 e2
    have t2 := i1 d ku _ u (by omega) u1 (by omega) e1 u3
    exact lt_le_trans (le_lt_trans t1 t) t2
  · have hA0 : 0 < A.length := by cases A with | nil => cases hx | cons _ _ => simp
    have hB0 : 0 < B.length := by cases B with | nil => cases hy | cons _ _ => simp
    obtain ⟨kx, u1, u2, u3⟩ := hat pre A (U ++ s2 ++ post) a x (by rw [hl, hAU]; simp) ha.symm hx
    obtain ⟨ky, v1, v2, v3⟩ := hat (pre ++ s1 ++ V) B post e y (by rw [hl, hVB]; simp) (by rw [List.length_append, List.length_append]; omega) hy
    have hd : d - 1 < l.length := by omega
    have hq : e < l.length := by omega
    have e1 := List.getElem?_eq_getElem hd
    have e2 := List.getElem?_eq_getElem hq
    have t := hF (d - 1) e _ _ (by omega) (by omega) (by omega) e1 e2
    have t1 := i1 kx (d - 1) x _ u1 (by omega) (by omega) u3 e1
    have t2 := i2 e ky _ y (by omega) v1 (by omega) e2 v3
    exact le_trans' (le_trans' t1 t) t2
end Go.Proofs.Ytgkgedjmnbjalaa

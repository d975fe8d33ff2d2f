/- Texts that the law needs, joined.
   Conditions: none. -/
import Derived.Test.YtgkgedjmnbjalaaToK
import Derived.Test.YtgkgedjmnbjalaaToD
import Derived.Test.YtgkgedjmnbjalaaToC
import Derived.Laws.EntriesVeiled
import Derived.Test.YtgkgedjmnbjalaaToA
import Derived.Test.YtgkgedjmnbjalaaToB
import Derived.Test.YtgkgedjmnbjalaaToH
import Derived.Test.YtgkgedjmnbjalaaToJ
import Derived.Test.YtgkgedjmnbjalaaToE
set_option linter.unusedSimpArgs false
set_option linter.unusedVariables false
namespace Go.Proofs.Ytgkgedjmnbjalaa
open Go.RowKit Go.Sort
set_option maxRecDepth 100000 in
set_option maxHeartbeats 8000000 in
theorem sym_big_F (N : Nat) (ih : SymAt N) (pre s1 s2 post : List It) (sp : List Value) (g cap a m b n mid : Nat) (w : World) (hb : Blk w g (rowI (pre ++ (s1 ++ s2) ++ post) ++ sp) 54) (ha : a = pre.length) (hmm : m = a + s1.length) (hbb : b = m + s2.length) (hn : n = (pre ++ (s1 ++ s2) ++ post).length) (hm : n ≤ 1048576) (hN : s1.length + s2.length ≤ N) (h1 : 2 ≤ s1.length) (h2 : 2 ≤ s2.length) (hs1 : SrtLe s1) (hs2 : SrtLe s2) (hmid : mid = (a + b) / 2) (hgt : ¬ mid < m) :
    Calls Try.prog 157 #[.slice (some ⟨g, 0, none⟩) n cap, .int .i64 a, .int .i64 m, .int .i64 b, .func (.func 116) #[] #[]] w fun e w' => e = .returned (.tuple #[]) ∧ (∃ s, SrtLe s ∧ SameF (s1 ++ s2) s ∧ s.length = (s1 ++ s2).length ∧ Blk w' g (rowI (pre ++ s ++ post) ++ sp) 54) ∧ w.grownBy w' (some g) := by
  have hlen : n = b + post.length := by rw [hn]; simp only [List.length_append]; omega
  have i1 : SrtIn (pre ++ (s1 ++ s2) ++ post) a m := by
    have h := srt_in (pre := pre) (s := s1) (post := s2 ++ post) hs1
    rw [← ha, ← hmm] at h
    simpa using h
  have i2 : SrtIn (pre ++ (s1 ++ s2) ++ post) m b := by
    have h := srt_in (pre := pre ++ s1) (s := s2) (post := post) hs2
    rw [List.length_append, ← ha, ← hmm, ← hbb] at h
    simpa using h
  obtain ⟨l, hl⟩ : ∃ l, l = pre ++ (s1 ++ s2) ++ post := ⟨_, rfl⟩
  rw [← hl] at hb i1 i2 hn
  obtain ⟨d1, hd1⟩ : ∃ d, d = m - a := ⟨_, rfl⟩
  obtain ⟨d2, hd2⟩ : ∃ d, d = b - m := ⟨_, rfl⟩
  have hw0 : IntKind.i64.wrap ((m : Int) - (a : Int)) = (d1 : Int) := by rw [IntKind.wrap_i64]; omega
  have hw00 : ((d1 : Int) == 1) = false := by rw [beq_eq_false_iff_ne]; omega
  have hw01 : IntKind.i64.wrap ((b : Int) - (m : Int)) = (d2 : Int) := by rw [IntKind.wrap_i64]; omega
  have hw02 : ((d2 : Int) == 1) = false := by rw [beq_eq_false_iff_ne]; omega
  have e1 : IntKind.i64.wrap ((a : Int) + (b : Int)) = ((a + b : Nat) : Int) := by rw [IntKind.wrap_i64]; omega
  have e2 : ((a : Int) + (b : Int)) / 2 = (mid : Int) := by omega
  obtain ⟨n0, hn0⟩ : ∃ x, x = mid + m := ⟨_, rfl⟩
  have hwn : IntKind.i64.wrap ((mid : Int) + (m : Int)) = (n0 : Int) := by rw [IntKind.wrap_i64]; omega
  obtain ⟨p, hp⟩ : ∃ p, p + 1 = n0 := ⟨n0 - 1, by omega⟩
  have hwp : IntKind.i64.wrap ((n0 : Int) - 1) = (p : Int) := by rw [IntKind.wrap_i64]; omega
  have hgti : ¬ (mid : Int) < (m : Int) := by omega
  have hal : a ≤ a := by omega
  have hlh : a ≤ m := by omega
  have hhm : m ≤ m := by omega
  have hhd : m ≤ mid := by omega
  have hpl : p < a + b := by omega
  have hpm : m + m ≤ p + 1 := by omega
  have hbn : b ≤ n := by omega
  have hma : a + 2 ≤ m := by omega
  have hmb : m + 2 ≤ b := by omega
  have hNb : b ≤ a + N := by omega
  have hmda : a < mid := by omega
  have hmdb : mid < b := by omega
  replace ha := Hd.mk ha
  replace hmm := Hd.mk hmm
  replace hbb := Hd.mk hbb
  replace hn := Hd.mk hn
  replace hb := Hd.mk hb
  replace hl := Hd.mk hl
  replace hlen := Hd.mk hlen
  replace i1 := Hd.mk i1
  replace i2 := Hd.mk i2
  replace hs1 := Hd.mk hs1
  replace hs2 := Hd.mk hs2
  replace hd1 := Hd.mk hd1
  replace hd2 := Hd.mk hd2
  replace hn0 := Hd.mk hn0
  replace hp := Hd.mk hp
  replace hmid := Hd.mk hmid
  replace ih := Hd.mk ih
  replace hN := Hd.mk hN
  replace h1 := Hd.mk h1
  replace h2 := Hd.mk h2
  clear hgt
  go_enter Try.func157, Try.ntmps157
  go_wp2_with fail
  clear hw0 hw00 hw01 hw02 e1 e2 hwn hwp hgti
  go_loopg [20, 21] (n + 1) (fun qq si sj wr => ∃ i j : Nat, a ≤ i ∧ i ≤ j ∧ j ≤ m ∧ Hd (j - i < qq) ∧ si = .int .i64 i ∧ sj = .int .i64 j ∧ Hd (∀ c q x y, a ≤ c → c < i → q + c = p → l[c]? = some x → l[q]? = some y → ltI y x = false) ∧ Hd (∀ c q x y, j ≤ c → c < m → q + c = p → l[c]? = some x → l[q]? = some y → ltI y x = true) ∧ Hd (Blk wr g (rowI l ++ sp) 54) ∧ Hd (w.grownBy wr (some g)))
  case atStart => exact ⟨a, m, Nat.le_refl _, hlh, Nat.le_refl _, ⟨by omega⟩, rfl, rfl, ⟨fun c q x y h1 h2 => by omega⟩, ⟨fun c q x y h1 h2 => by omega⟩, hb, ⟨grown_ext (Ext.refl _)⟩⟩
  case round =>
  clear hb
  obtain ⟨i, j, hli, hij, hjh, hq, rfl, rfl, hF, hT, hrow, hgr⟩ := hrel
  generalize wr = V0 at *
  by_cases hlt : i < j
  · obtain ⟨c, hc⟩ : ∃ c, c = (i + j) / 2 := ⟨_, rfl⟩
    have hc1 : i ≤ c := by omega
    have hc2 : c < j := by omega
    obtain ⟨r, hr⟩ : ∃ r, r + c = p := ⟨p - c, by omega⟩
    have hr1 : m ≤ r := by omega
    have hr2 : r < b := by omega
    have hcn : c < n := by omega
    have hrn : r < n := by omega
    have hcl : c < l.length := by have := hn.out; omega
    have hrl : r < l.length := by have := hn.out; omega
    have hx := List.getElem?_eq_getElem hcl
    have hy := List.getElem?_eq_getElem hrl
    generalize l[c] = x at hx
    generalize l[r] = y at hy
    clear hcl hrl
    have e1 : IntKind.i64.wrap ((i : Int) + (j : Int)) = ((i + j : Nat) : Int) := by rw [IntKind.wrap_i64]; omega
    have e2 : ((i : Int) + (j : Int)) / 2 = (c : Int) := by omega
    have hcA := Hd.mk (rowI_cell hrow.out hy)
    have hcB := Hd.mk (rowI_cell hrow.out hx)
    have hcmp := Hd.mk (fun w => tree_compare y.1 x.1 y.2.1 x.2.1 y.1.kids.length y.2.2 x.1.kids.length x.2.2 w)
    simp only [cT, cI] at hcmp hcA hcB
    have hlt0 : (i : Int) < (j : Int) := by omega
    have hcni : (c : Int) < (n : Int) := by omega
    have hrni : (r : Int) < (n : Int) := by omega
    replace hx := Hd.mk hx
    replace hy := Hd.mk hy
    replace hc := Hd.mk hc
    replace hr := Hd.mk hr
    cases hle : ltI y x with
    | true =>
      have hneg := Hd.mk (cmp_lt hle)
      go_wp2_with fail
      refine Flow.wp_region_flow_l (fun qq => match qq with
        | 158 => SP.eq (.func (.func 116) #[] #[])
        | 159 => SP.eq (.slice (some ⟨g, 0, none⟩) n cap)
        | 160 => SP.eq (.int .i64 (p : Nat))
        | 161 => SP.eq (.int .i64 (c : Nat))
        | 162 => SP.eq (.int .i64 (r : Nat))
        | 163 => SP.eq (.pointer (some ⟨g, r * 6, none⟩))
        | 164 => SP.eq (.agg #[.string y.1.name, .string y.1.key, .int .i64 y.1.kind, .int .u64 y.1.num, .string y.1.text, .slice y.2.1 y.1.kids.length y.2.2])
        | 165 => SP.eq (.slice (some ⟨g, 0, none⟩) n cap)
        | 166 => SP.eq (.int .i64 (c : Nat))
        | 167 => SP.eq (.pointer (some ⟨g, c * 6, none⟩))
        | 168 => SP.eq (.agg #[.string x.1.name, .string x.1.key, .int .i64 x.1.kind, .int .u64 x.1.num, .string x.1.text, .slice x.2.1 x.1.kids.length x.2.2])
        | 169 => SP.eq (.int .i64 (cmpT y.1 x.1))
        | 170 => SP.eq (.bool true)
        | 171 => SP.eq (.bool false)
        | _ => SP.any) 14 (by kernel_rfl) 220 rfl (by kernel_rfl) ?_ ?_
      · skip
        refine ⟨?_, ?_, ?_, ?_, ?_, ?_, ?_, ?_, ?_, ?_, ?_, ?_, ?_, ?_, trivial⟩
        · intro act W2 hk
          refine Flow.does_intro rfl (fun Kq hK => ?_)
          have e4 : act.tmps[4]?.getD undef = .func (.func 116) #[] #[] := hk.o 4 (by kernel_rfl)
          clear hk
          go_simp
          exact hK _ _ (Ext.refl _) (fun d hd => by cases hd; rfl)
        · intro act W2 hk
          refine Flow.does_intro rfl (fun Kq hK => ?_)
          have e0 : act.tmps[0]?.getD undef = .slice (some ⟨g, 0, none⟩) n cap := hk.o 0 (by kernel_rfl)
          clear hk
          go_simp
          exact hK _ _ (Ext.refl _) (fun d hd => by cases hd; rfl)
        · intro act W2 hk
          refine Flow.does_intro rfl (fun Kq hK => ?_)
          have e22 : act.tmps[22]?.getD undef = .int .i64 (p : Nat) := hk.o 22 (by kernel_rfl)
          clear hk
          go_simp
          exact hK _ _ (Ext.refl _) (fun d hd => by cases hd; rfl)
        · intro act W2 hk
          refine Flow.does_intro rfl (fun Kq hK => ?_)
          have e23 : act.tmps[23]?.getD undef = .int .i64 (c : Nat) := hk.o 23 (by kernel_rfl)
          clear hk
          go_simp
          exact hK _ _ (Ext.refl _) (fun d hd => by cases hd; rfl)
        · intro act W2 hk
          refine Flow.does_intro rfl (fun Kq hK => ?_)
          have e160 : act.tmps[160]?.getD undef = .int .i64 (p : Nat) := hk.v 160 (by kernel_rfl)
          have e161 : act.tmps[161]?.getD undef = .int .i64 (c : Nat) := hk.v 161 (by kernel_rfl)
          clear hk
          go_simp
          exact hK _ _ (Ext.refl _) (fun d hd => by cases hd; have h1 := hr.out; have h2 := hrn; simp [SP.eq]; first | omega | (unfold wrap64; omega) | (rw [IntKind.wrap_i64]; omega))
        · intro act W2 hk
          refine Flow.does_intro rfl (fun Kq hK => ?_)
          have e159 : act.tmps[159]?.getD undef = .slice (some ⟨g, 0, none⟩) n cap := hk.v 159 (by kernel_rfl)
          have e162 : act.tmps[162]?.getD undef = .int .i64 (r : Nat) := hk.v 162 (by kernel_rfl)
          clear hk
          go_simp
          exact hK _ _ (Ext.refl _) (fun d hd => by cases hd; rfl)
        · intro act W2 hk
          refine Flow.does_intro rfl (fun Kq hK => ?_)
          have e163 : act.tmps[163]?.getD undef = .pointer (some ⟨g, r * 6, none⟩) := hk.v 163 (by kernel_rfl)
          have g0 := Ext.cell ((Ext.drew V0).trans hk.ext) ((hcA.out) 0 _ rfl)
          rw [Nat.add_zero] at g0
          have g1 := Ext.cell ((Ext.drew V0).trans hk.ext) ((hcA.out) 1 _ rfl)
          have g2 := Ext.cell ((Ext.drew V0).trans hk.ext) ((hcA.out) 2 _ rfl)
          have g3 := Ext.cell ((Ext.drew V0).trans hk.ext) ((hcA.out) 3 _ rfl)
          have g4 := Ext.cell ((Ext.drew V0).trans hk.ext) ((hcA.out) 4 _ rfl)
          have g5 := Ext.cell ((Ext.drew V0).trans hk.ext) ((hcA.out) 5 _ rfl)
          clear hk
          go_simp
          exact hK _ _ (Ext.refl _) (fun d hd => by cases hd; rfl)
        · intro act W2 hk
          refine Flow.does_intro rfl (fun Kq hK => ?_)
          have e0 : act.tmps[0]?.getD undef = .slice (some ⟨g, 0, none⟩) n cap := hk.o 0 (by kernel_rfl)
          clear hk
          go_simp
          exact hK _ _ (Ext.refl _) (fun d hd => by cases hd; rfl)
        · intro act W2 hk
          refine Flow.does_intro rfl (fun Kq hK => ?_)
          have e23 : act.tmps[23]?.getD undef = .int .i64 (c : Nat) := hk.o 23 (by kernel_rfl)
          clear hk
          go_simp
          exact hK _ _ (Ext.refl _) (fun d hd => by cases hd; rfl)
        · intro act W2 hk
          refine Flow.does_intro rfl (fun Kq hK => ?_)
          have e165 : act.tmps[165]?.getD undef = .slice (some ⟨g, 0, none⟩) n cap := hk.v 165 (by kernel_rfl)
          have e166 : act.tmps[166]?.getD undef = .int .i64 (c : Nat) := hk.v 166 (by kernel_rfl)
          clear hk
          go_simp
          exact hK _ _ (Ext.refl _) (fun d hd => by cases hd; rfl)
        · intro act W2 hk
          refine Flow.does_intro rfl (fun Kq hK => ?_)
          have e167 : act.tmps[167]?.getD undef = .pointer (some ⟨g, c * 6, none⟩) := hk.v 167 (by kernel_rfl)
          have g0 := Ext.cell ((Ext.drew V0).trans hk.ext) ((hcB.out) 0 _ rfl)
          rw [Nat.add_zero] at g0
          have g1 := Ext.cell ((Ext.drew V0).trans hk.ext) ((hcB.out) 1 _ rfl)
          have g2 := Ext.cell ((Ext.drew V0).trans hk.ext) ((hcB.out) 2 _ rfl)
          have g3 := Ext.cell ((Ext.drew V0).trans hk.ext) ((hcB.out) 3 _ rfl)
          have g4 := Ext.cell ((Ext.drew V0).trans hk.ext) ((hcB.out) 4 _ rfl)
          have g5 := Ext.cell ((Ext.drew V0).trans hk.ext) ((hcB.out) 5 _ rfl)
          clear hk
          go_simp
          exact hK _ _ (Ext.refl _) (fun d hd => by cases hd; rfl)
        · intro act W2 hk
          refine Flow.does_intro rfl (fun Kq hK => ?_)
          have e158 : act.tmps[158]?.getD undef = .func (.func 116) #[] #[] := hk.v 158 (by kernel_rfl)
          have e164 : act.tmps[164]?.getD undef = .agg #[.string y.1.name, .string y.1.key, .int .i64 y.1.kind, .int .u64 y.1.num, .string y.1.text, .slice y.2.1 y.1.kids.length y.2.2] := hk.v 164 (by kernel_rfl)
          have e168 : act.tmps[168]?.getD undef = .agg #[.string x.1.name, .string x.1.key, .int .i64 x.1.kind, .int .u64 x.1.num, .string x.1.text, .slice x.2.1 x.1.kids.length x.2.2] := hk.v 168 (by kernel_rfl)
          clear hk
          go_simp
          refine Calls.mono (hcmp.out _) ?_
          rintro e W3 ⟨rfl, hx⟩
          exact hK _ _ hx (fun d hd => by cases hd; rfl)
        · intro act W2 hk
          refine Flow.does_intro rfl (fun Kq hK => ?_)
          have e169 : act.tmps[169]?.getD undef = .int .i64 (cmpT y.1 x.1) := hk.v 169 (by kernel_rfl)
          clear hk
          go_simp
          exact hK _ _ (Ext.refl _) (fun d hd => by cases hd; have h1 := hneg.out; simp [SP.eq] at h1 ⊢; omega)
        · intro act W2 hk
          refine Flow.does_intro rfl (fun Kq hK => ?_)
          have e170 : act.tmps[170]?.getD undef = .bool true := hk.v 170 (by kernel_rfl)
          clear hk
          go_simp
          exact hK _ _ (Ext.refl _) (fun d hd => by cases hd; rfl)
      · intro act W2 he
        have hxW2 := Hd.mk ((Ext.drew V0).trans he.ext)
        obtain ⟨us, hA, hF⟩ := he.out [158, 159, 160, 161, 162, 163, 164, 165, 166, 167, 168, 169, 170, 171] (by kernel_rfl)
        simp only [Flow.fillL, List.contains_cons, List.contains_nil, Nat.reduceBEq, Bool.or_false, Bool.false_or, Bool.or_true, Bool.true_or, ↓reduceIte, Nat.reduceAdd, Bool.false_eq_true] at hA
        subst hA
        have f171 : us 171 = .bool false := hF 171 (by simp)
        clear hF he
        rw [f171]
        clear f171
        refine (show wpList _ _ _ [] _ _ from ?_)
        replace hrow := Hd.mk (hrow.out.ext hxW2.out)
        replace hgr := Hd.mk (grown_trans hgr.out (grown_ext hxW2.out))
        clear hxW2
        clear e1 e2
        go_wp2_with fail
        go_roundg (c - i + 1)
        case measure => have := hq.out; omega
        case rel => exact ⟨i, c, hli, hc1, by omega, ⟨by omega⟩, rfl, rfl, hF, ⟨fun c' q' x' y' k1 k2 k3 k4 k5 => by
          have h1 := hr.out
          exact lt_le_trans (le_lt_trans (i2.out q' r y' y (by omega) (by omega) hr2 k5 hy.out) hle) (i1.out c c' x x' (by omega) k1 (by omega) hx.out k4)⟩, hrow, hgr⟩
    | false =>
      have hneg := Hd.mk (cmp_lt hle)
      go_wp2_with fail
      refine Flow.wp_region_flow_l (fun qq => match qq with
        | 158 => SP.eq (.func (.func 116) #[] #[])
        | 159 => SP.eq (.slice (some ⟨g, 0, none⟩) n cap)
        | 160 => SP.eq (.int .i64 (p : Nat))
        | 161 => SP.eq (.int .i64 (c : Nat))
        | 162 => SP.eq (.int .i64 (r : Nat))
        | 163 => SP.eq (.pointer (some ⟨g, r * 6, none⟩))
        | 164 => SP.eq (.agg #[.string y.1.name, .string y.1.key, .int .i64 y.1.kind, .int .u64 y.1.num, .string y.1.text, .slice y.2.1 y.1.kids.length y.2.2])
        | 165 => SP.eq (.slice (some ⟨g, 0, none⟩) n cap)
        | 166 => SP.eq (.int .i64 (c : Nat))
        | 167 => SP.eq (.pointer (some ⟨g, c * 6, none⟩))
        | 168 => SP.eq (.agg #[.string x.1.name, .string x.1.key, .int .i64 x.1.kind, .int .u64 x.1.num, .string x.1.text, .slice x.2.1 x.1.kids.length x.2.2])
        | 169 => SP.eq (.int .i64 (cmpT y.1 x.1))
        | 170 => SP.eq (.bool false)
        | 171 => SP.eq (.bool true)
        | _ => SP.any) 14 (by kernel_rfl) 220 rfl (by kernel_rfl) ?_ ?_
      · skip
        refine ⟨?_, ?_, ?_, ?_, ?_, ?_, ?_, ?_, ?_, ?_, ?_, ?_, ?_, ?_, trivial⟩
        · intro act W2 hk
          refine Flow.does_intro rfl (fun Kq hK => ?_)
          have e4 : act.tmps[4]?.getD undef = .func (.func 116) #[] #[] := hk.o 4 (by kernel_rfl)
          clear hk
          go_simp
          exact hK _ _ (Ext.refl _) (fun d hd => by cases hd; rfl)
        · intro act W2 hk
          refine Flow.does_intro rfl (fun Kq hK => ?_)
          have e0 : act.tmps[0]?.getD undef = .slice (some ⟨g, 0, none⟩) n cap := hk.o 0 (by kernel_rfl)
          clear hk
          go_simp
          exact hK _ _ (Ext.refl _) (fun d hd => by cases hd; rfl)
        · intro act W2 hk
          refine Flow.does_intro rfl (fun Kq hK => ?_)
          have e22 : act.tmps[22]?.getD undef = .int .i64 (p : Nat) := hk.o 22 (by kernel_rfl)
          clear hk
          go_simp
          exact hK _ _ (Ext.refl _) (fun d hd => by cases hd; rfl)
        · intro act W2 hk
          refine Flow.does_intro rfl (fun Kq hK => ?_)
          have e23 : act.tmps[23]?.getD undef = .int .i64 (c : Nat) := hk.o 23 (by kernel_rfl)
          clear hk
          go_simp
          exact hK _ _ (Ext.refl _) (fun d hd => by cases hd; rfl)
        · intro act W2 hk
          refine Flow.does_intro rfl (fun Kq hK => ?_)
          have e160 : act.tmps[160]?.getD undef = .int .i64 (p : Nat) := hk.v 160 (by kernel_rfl)
          have e161 : act.tmps[161]?.getD undef = .int .i64 (c : Nat) := hk.v 161 (by kernel_rfl)
          clear hk
          go_simp
          exact hK _ _ (Ext.refl _) (fun d hd => by cases hd; have h1 := hr.out; have h2 := hrn; simp [SP.eq]; first | omega | (unfold wrap64; omega) | (rw [IntKind.wrap_i64]; omega))
        · intro act W2 hk
          refine Flow.does_intro rfl (fun Kq hK => ?_)
          have e159 : act.tmps[159]?.getD undef = .slice (some ⟨g, 0, none⟩) n cap := hk.v 159 (by kernel_rfl)
          have e162 : act.tmps[162]?.getD undef = .int .i64 (r : Nat) := hk.v 162 (by kernel_rfl)
          clear hk
          go_simp
          exact hK _ _ (Ext.refl _) (fun d hd => by cases hd; rfl)
        · intro act W2 hk
          refine Flow.does_intro rfl (fun Kq hK => ?_)
          have e163 : act.tmps[163]?.getD undef = .pointer (some ⟨g, r * 6, none⟩) := hk.v 163 (by kernel_rfl)
          have g0 := Ext.cell ((Ext.drew V0).trans hk.ext) ((hcA.out) 0 _ rfl)
          rw [Nat.add_zero] at g0
          have g1 := Ext.cell ((Ext.drew V0).trans hk.ext) ((hcA.out) 1 _ rfl)
          have g2 := Ext.cell ((Ext.drew V0).trans hk.ext) ((hcA.out) 2 _ rfl)
          have g3 := Ext.cell ((Ext.drew V0).trans hk.ext) ((hcA.out) 3 _ rfl)
          have g4 := Ext.cell ((Ext.drew V0).trans hk.ext) ((hcA.out) 4 _ rfl)
          have g5 := Ext.cell ((Ext.drew V0).trans hk.ext) ((hcA.out) 5 _ rfl)
          clear hk
          go_simp
          exact hK _ _ (Ext.refl _) (fun d hd => by cases hd; rfl)
        · intro act W2 hk
          refine Flow.does_intro rfl (fun Kq hK => ?_)
          have e0 : act.tmps[0]?.getD undef = .slice (some ⟨g, 0, none⟩) n cap := hk.o 0 (by kernel_rfl)
          clear hk
          go_simp
          exact hK _ _ (Ext.refl _) (fun d hd => by cases hd; rfl)
        · intro act W2 hk
          refine Flow.does_intro rfl (fun Kq hK => ?_)
          have e23 : act.tmps[23]?.getD undef = .int .i64 (c : Nat) := hk.o 23 (by kernel_rfl)
          clear hk
          go_simp
          exact hK _ _ (Ext.refl _) (fun d hd => by cases hd; rfl)
        · intro act W2 hk
          refine Flow.does_intro rfl (fun Kq hK => ?_)
          have e165 : act.tmps[165]?.getD undef = .slice (some ⟨g, 0, none⟩) n cap := hk.v 165 (by kernel_rfl)
          have e166 : act.tmps[166]?.getD undef = .int .i64 (c : Nat) := hk.v 166 (by kernel_rfl)
          clear hk
          go_simp
          exact hK _ _ (Ext.refl _) (fun d hd => by cases hd; rfl)
        · intro act W2 hk
          refine Flow.does_intro rfl (fun Kq hK => ?_)
          have e167 : act.tmps[167]?.getD undef = .pointer (some ⟨g, c * 6, none⟩) := hk.v 167 (by kernel_rfl)
          have g0 := Ext.cell ((Ext.drew V0).trans hk.ext) ((hcB.out) 0 _ rfl)
          rw [Nat.add_zero] at g0
          have g1 := Ext.cell ((Ext.drew V0).trans hk.ext) ((hcB.out) 1 _ rfl)
          have g2 := Ext.cell ((Ext.drew V0).trans hk.ext) ((hcB.out) 2 _ rfl)
          have g3 := Ext.cell ((Ext.drew V0).trans hk.ext) ((hcB.out) 3 _ rfl)
          have g4 := Ext.cell ((Ext.drew V0).trans hk.ext) ((hcB.out) 4 _ rfl)
          have g5 := Ext.cell ((Ext.drew V0).trans hk.ext) ((hcB.out) 5 _ rfl)
          clear hk
          go_simp
          exact hK _ _ (Ext.refl _) (fun d hd => by cases hd; rfl)
        · intro act W2 hk
          refine Flow.does_intro rfl (fun Kq hK => ?_)
          have e158 : act.tmps[158]?.getD undef = .func (.func 116) #[] #[] := hk.v 158 (by kernel_rfl)
          have e164 : act.tmps[164]?.getD undef = .agg #[.string y.1.name, .string y.1.key, .int .i64 y.1.kind, .int .u64 y.1.num, .string y.1.text, .slice y.2.1 y.1.kids.length y.2.2] := hk.v 164 (by kernel_rfl)
          have e168 : act.tmps[168]?.getD undef = .agg #[.string x.1.name, .string x.1.key, .int .i64 x.1.kind, .int .u64 x.1.num, .string x.1.text, .slice x.2.1 x.1.kids.length x.2.2] := hk.v 168 (by kernel_rfl)
          clear hk
          go_simp
          refine Calls.mono (hcmp.out _) ?_
          rintro e W3 ⟨rfl, hx⟩
          exact hK _ _ hx (fun d hd => by cases hd; rfl)
        · intro act W2 hk
          refine Flow.does_intro rfl (fun Kq hK => ?_)
          have e169 : act.tmps[169]?.getD undef = .int .i64 (cmpT y.1 x.1) := hk.v 169 (by kernel_rfl)
          clear hk
          go_simp
          exact hK _ _ (Ext.refl _) (fun d hd => by cases hd; have h1 := hneg.out; simp [SP.eq] at h1 ⊢; omega)
        · intro act W2 hk
          refine Flow.does_intro rfl (fun Kq hK => ?_)
          have e170 : act.tmps[170]?.getD undef = .bool false := hk.v 170 (by kernel_rfl)
          clear hk
          go_simp
          exact hK _ _ (Ext.refl _) (fun d hd => by cases hd; rfl)
      · intro act W2 he
        have hxW2 := Hd.mk ((Ext.drew V0).trans he.ext)
        obtain ⟨us, hA, hF⟩ := he.out [158, 159, 160, 161, 162, 163, 164, 165, 166, 167, 168, 169, 170, 171] (by kernel_rfl)
        simp only [Flow.fillL, List.contains_cons, List.contains_nil, Nat.reduceBEq, Bool.or_false, Bool.false_or, Bool.or_true, Bool.true_or, ↓reduceIte, Nat.reduceAdd, Bool.false_eq_true] at hA
        subst hA
        have f171 : us 171 = .bool true := hF 171 (by simp)
        clear hF he
        rw [f171]
        clear f171
        refine (show wpList _ _ _ [] _ _ from ?_)
        replace hrow := Hd.mk (hrow.out.ext hxW2.out)
        replace hgr := Hd.mk (grown_trans hgr.out (grown_ext hxW2.out))
        clear hxW2
        clear e1 e2
        go_wp2_with fail
        go_roundg (j - c)
        case measure => have := hq.out; omega
        case rel => exact ⟨c + 1, j, by omega, by omega, hjh, ⟨by omega⟩, by go_num, rfl, ⟨fun c' q' x' y' k1 k2 k3 k4 k5 => by
          have h1 := hr.out
          exact le_trans' (le_trans' (i1.out c' c x' x (by omega) (by omega) (by omega) k4 hx.out) hle) (i2.out r q' y y' hr1 (by omega) (by omega) hy.out k5)⟩, hT, hrow, hgr⟩
  · have hji : j = i := by omega
    subst hji
    generalize j = d at *
    obtain ⟨e, he⟩ : ∃ e, e + d = mid + m := ⟨mid + m - d, by omega⟩
    have hwe : IntKind.i64.wrap ((n0 : Int) - (d : Int)) = (e : Int) := by have := hn0.out; rw [IntKind.wrap_i64]; omega
    obtain ⟨A, U, V, B, hAU, hVB, hA, hU, hV, hB, hVU, hAB⟩ := merge_plan hl.out ha.out hmm.out hbb.out hs1.out hs2.out hli hjh he (by have := hn0.out; have := hp.out; omega) hal hhm hhd (by have := hn0.out; have := hp.out; omega) (.inl rfl) (.inl rfl) hF.out hT.out
    have hrow0 : Blk V0 g (rowI (pre ++ A ++ U ++ V ++ (B ++ post)) ++ sp) 54 := by have := hrow.out; rw [hl.out, hAU, hVB] at this; simpa using this
    have hln : n = (pre ++ A ++ U ++ V ++ (B ++ post)).length := by have := hn.out; rw [hl.out, hAU, hVB] at this; rw [this]; simp only [List.length_append]; omega
    have hsA : SrtLe (A ++ U) := hAU ▸ hs1.out
    have hsB : SrtLe (V ++ B) := hVB ▸ hs2.out
    subst hAU
    subst hVB
    have hge : ¬ (d : Int) < (d : Int) := by omega
    have hsz : A.length + U.length = m - a ∧ V.length + B.length = b - m := by rw [hA, hU, hV, hB]; have := hn0.out; have := hp.out; omega
    have hsz1 : 2 ≤ A.length + U.length := by omega
    have hsz2 : 2 ≤ V.length + B.length := by omega
    clear hrow hl hn i1 i2 hF hT hlt hs1 hs2 hsz
    replace hrow0 := Hd.mk hrow0
    replace hln := Hd.mk hln
    replace hsA := Hd.mk hsA
    replace hsB := Hd.mk hsB
    replace hVU := Hd.mk hVU
    replace hAB := Hd.mk hAB
    replace hA := Hd.mk hA
    replace hU := Hd.mk hU
    replace hV := Hd.mk hV
    replace hB := Hd.mk hB
    replace he := Hd.mk he
    by_cases hA0 : 0 < A.length
    · skip
      by_cases hU0 : 0 < U.length
      · skip
        by_cases hV0 : 0 < V.length
        · skip
          by_cases hB0 : 0 < B.length
          · skip
            have c1 : (d : Int) < (m : Int) := by have := hA.out; have := hU.out; have := hV.out; have := hB.out; have := he.out; have := hn0.out; omega
            have c2 : (m : Int) < (e : Int) := by have := hA.out; have := hU.out; have := hV.out; have := hB.out; have := he.out; have := hn0.out; omega
            have c3 : (a : Int) < (d : Int) := by have := hA.out; have := hU.out; have := hV.out; have := hB.out; have := he.out; have := hn0.out; omega
            have c4 : (d : Int) < (mid : Int) := by have := hA.out; have := hU.out; have := hV.out; have := hB.out; have := he.out; have := hn0.out; omega
            have c5 : (mid : Int) < (e : Int) := by have := hA.out; have := hU.out; have := hV.out; have := hB.out; have := he.out; have := hn0.out; omega
            have c6 : (e : Int) < (b : Int) := by have := hA.out; have := hU.out; have := hV.out; have := hB.out; have := he.out; have := hn0.out; omega
            have hc0 := Hd.mk (rotate (pre ++ A) U V (B ++ post) sp g cap d m e n V0 hrow0.out (by have := hA.out; have := hU.out; have := hV.out; have := hB.out; have := he.out; have := hn0.out; have := ha.out; have := hmm.out; have := hbb.out; simp only [List.length_append, List.length_nil] at *; omega) (by have := hA.out; have := hU.out; have := hV.out; have := hB.out; have := he.out; have := hn0.out; have := ha.out; have := hmm.out; have := hbb.out; simp only [List.length_append, List.length_nil] at *; omega) (by have := hA.out; have := hU.out; have := hV.out; have := hB.out; have := he.out; have := hn0.out; have := ha.out; have := hmm.out; have := hbb.out; simp only [List.length_append, List.length_nil] at *; omega) hU0 hV0 hln.out hm)
            go_wp2_with fail
            refine Calls.mono hc0.out ?_
            rintro e2 w2 ⟨rfl, hrow1, hgr2⟩
            replace hrow1 := Hd.mk hrow1
            replace hgr := Hd.mk (grown_trans hgr.out hgr2)
            clear hgr2 hc0 hrow0
            have hc1 := Hd.mk (ih.out pre A V (U ++ B ++ post) sp g cap a d mid n w2 (by simpa using hrow1.out) ha.out (by have := hA.out; have := hU.out; have := hV.out; have := hB.out; have := he.out; have := hn0.out; have := ha.out; have := hmm.out; have := hbb.out; simp only [List.length_append, List.length_nil] at *; omega) (by have := hA.out; have := hU.out; have := hV.out; have := hB.out; have := he.out; have := hn0.out; have := ha.out; have := hmm.out; have := hbb.out; simp only [List.length_append, List.length_nil] at *; omega) (by rw [hln.out]; simp only [List.length_append]; omega) hm (by have := hA.out; have := hU.out; have := hV.out; have := hB.out; have := he.out; have := hn0.out; have := ha.out; have := hmm.out; have := hbb.out; simp only [List.length_append, List.length_nil] at *; omega) hA0 hV0 (srt_app.1 hsA.out).1 (srt_app.1 hsB.out).1)
            go_wp2_with fail
            refine Calls.mono hc1.out ?_
            rintro e3 w3 ⟨rfl, ⟨L, hL1, hL2, hL3, hrow2⟩, hgr2⟩
            replace hgr := Hd.mk (grown_trans hgr.out hgr2)
            clear hgr2 hc1 hrow1
            replace hL1 := Hd.mk hL1
            replace hL2 := Hd.mk hL2
            replace hL3 := Hd.mk hL3
            replace hrow2 := Hd.mk hrow2
            have hc2 := Hd.mk (ih.out (pre ++ L) U B post sp g cap mid e b n w3 (by simpa using hrow2.out) (by have := hA.out; have := hU.out; have := hV.out; have := hB.out; have := he.out; have := hn0.out; have := ha.out; have := hmm.out; have := hbb.out; have := hL3.out; have := hln.out; simp only [List.length_append, List.length_nil] at *; omega) (by have := hA.out; have := hU.out; have := hV.out; have := hB.out; have := he.out; have := hn0.out; have := ha.out; have := hmm.out; have := hbb.out; have := hL3.out; have := hln.out; simp only [List.length_append, List.length_nil] at *; omega) (by have := hA.out; have := hU.out; have := hV.out; have := hB.out; have := he.out; have := hn0.out; have := ha.out; have := hmm.out; have := hbb.out; have := hL3.out; have := hln.out; simp only [List.length_append, List.length_nil] at *; omega) (by have := hA.out; have := hU.out; have := hV.out; have := hB.out; have := he.out; have := hn0.out; have := ha.out; have := hmm.out; have := hbb.out; have := hL3.out; have := hln.out; simp only [List.length_append, List.length_nil] at *; omega) hm (by have := hA.out; have := hU.out; have := hV.out; have := hB.out; have := he.out; have := hn0.out; have := ha.out; have := hmm.out; have := hbb.out; have := hL3.out; have := hln.out; simp only [List.length_append, List.length_nil] at *; omega) hU0 hB0 (srt_app.1 hsA.out).2.1 (srt_app.1 hsB.out).2.1)
            go_wp2_with fail
            refine Calls.mono hc2.out ?_
            rintro e4 w4 ⟨rfl, ⟨R, hR1, hR2, hR3, hrow3⟩, hgr2⟩
            replace hgr := Hd.mk (grown_trans hgr.out hgr2)
            clear hgr2 hc2 hrow2
            have hfin := Hd.mk (merge_two hsA.out hsB.out hVU.out hAB.out hL1.out hL2.out hR1 hR2)
            replace hR3 := Hd.mk hR3
            replace hrow3 := Hd.mk hrow3
            clear hR1 hR2
            go_wp2_with fail
            all_goals try go_end0
            all_goals exact ⟨rfl, ⟨L ++ R, by simpa using hfin.out.1, by simpa using hfin.out.2, by have h1 := hL3.out; have h2 := hR3.out; simp only [List.length_append, List.length_nil] at h1 h2 ⊢; omega, by simpa using hrow3.out⟩, hgr.out⟩
          · skip
            have c1 : (d : Int) < (m : Int) := by have := hA.out; have := hU.out; have := hV.out; have := hB.out; have := he.out; have := hn0.out; omega
            have c2 : (m : Int) < (e : Int) := by have := hA.out; have := hU.out; have := hV.out; have := hB.out; have := he.out; have := hn0.out; omega
            have c3 : (a : Int) < (d : Int) := by have := hA.out; have := hU.out; have := hV.out; have := hB.out; have := he.out; have := hn0.out; omega
            have c4 : (d : Int) < (mid : Int) := by have := hA.out; have := hU.out; have := hV.out; have := hB.out; have := he.out; have := hn0.out; omega
            have c5 : (mid : Int) < (e : Int) := by have := hA.out; have := hU.out; have := hV.out; have := hB.out; have := he.out; have := hn0.out; omega
            have c6 : ¬ (e : Int) < (b : Int) := by have := hA.out; have := hU.out; have := hV.out; have := hB.out; have := he.out; have := hn0.out; omega
            obtain rfl : B = [] := List.eq_nil_of_length_eq_zero (by omega)
            have hc0 := Hd.mk (rotate (pre ++ A) U V (([] : List It) ++ post) sp g cap d m e n V0 hrow0.out (by have := hA.out; have := hU.out; have := hV.out; have := hB.out; have := he.out; have := hn0.out; have := ha.out; have := hmm.out; have := hbb.out; simp only [List.length_append, List.length_nil] at *; omega) (by have := hA.out; have := hU.out; have := hV.out; have := hB.out; have := he.out; have := hn0.out; have := ha.out; have := hmm.out; have := hbb.out; simp only [List.length_append, List.length_nil] at *; omega) (by have := hA.out; have := hU.out; have := hV.out; have := hB.out; have := he.out; have := hn0.out; have := ha.out; have := hmm.out; have := hbb.out; simp only [List.length_append, List.length_nil] at *; omega) hU0 hV0 hln.out hm)
            go_wp2_with fail
            refine Calls.mono hc0.out ?_
            rintro e2 w2 ⟨rfl, hrow1, hgr2⟩
            replace hrow1 := Hd.mk hrow1
            replace hgr := Hd.mk (grown_trans hgr.out hgr2)
            clear hgr2 hc0 hrow0
            have hc1 := Hd.mk (ih.out pre A V (U ++ ([] : List It) ++ post) sp g cap a d mid n w2 (by simpa using hrow1.out) ha.out (by have := hA.out; have := hU.out; have := hV.out; have := hB.out; have := he.out; have := hn0.out; have := ha.out; have := hmm.out; have := hbb.out; simp only [List.length_append, List.length_nil] at *; omega) (by have := hA.out; have := hU.out; have := hV.out; have := hB.out; have := he.out; have := hn0.out; have := ha.out; have := hmm.out; have := hbb.out; simp only [List.length_append, List.length_nil] at *; omega) (by rw [hln.out]; simp only [List.length_append]; omega) hm (by have := hA.out; have := hU.out; have := hV.out; have := hB.out; have := he.out; have := hn0.out; have := ha.out; have := hmm.out; have := hbb.out; simp only [List.length_append, List.length_nil] at *; omega) hA0 hV0 (srt_app.1 hsA.out).1 (srt_app.1 hsB.out).1)
            go_wp2_with fail
            refine Calls.mono hc1.out ?_
            rintro e3 w3 ⟨rfl, ⟨L, hL1, hL2, hL3, hrow2⟩, hgr2⟩
            replace hgr := Hd.mk (grown_trans hgr.out hgr2)
            clear hgr2 hc1 hrow1
            replace hL1 := Hd.mk hL1
            replace hL2 := Hd.mk hL2
            replace hL3 := Hd.mk hL3
            replace hrow2 := Hd.mk hrow2
            obtain ⟨R, hR1, hR2, hR3, hrow3⟩ : ∃ R, SrtLe R ∧ SameF (U ++ ([] : List It)) R ∧ R.length = (U ++ ([] : List It)).length ∧ Blk w3 g (rowI (pre ++ L ++ R ++ post) ++ sp) 54 := ⟨U ++ ([] : List It), srt_half (srt_app.1 hsA.out).2.1 (srt_app.1 hsB.out).2.1 (.inr rfl), SameF.refl _, rfl, by simpa using hrow2.out⟩
            clear hrow2
            have hfin := Hd.mk (merge_two hsA.out hsB.out hVU.out hAB.out hL1.out hL2.out hR1 hR2)
            replace hR3 := Hd.mk hR3
            replace hrow3 := Hd.mk hrow3
            clear hR1 hR2
            go_wp2_with fail
            all_goals try go_end0
            all_goals exact ⟨rfl, ⟨L ++ R, by simpa using hfin.out.1, by simpa using hfin.out.2, by have h1 := hL3.out; have h2 := hR3.out; simp only [List.length_append, List.length_nil] at h1 h2 ⊢; omega, by simpa using hrow3.out⟩, hgr.out⟩
        · skip
          have hB0 : 0 < B.length := by omega
          have c1 : (d : Int) < (m : Int) := by have := hA.out; have := hU.out; have := hV.out; have := hB.out; have := he.out; have := hn0.out; omega
          have c2 : ¬ (m : Int) < (e : Int) := by have := hA.out; have := hU.out; have := hV.out; have := hB.out; have := he.out; have := hn0.out; omega
          have c3 : (a : Int) < (d : Int) := by have := hA.out; have := hU.out; have := hV.out; have := hB.out; have := he.out; have := hn0.out; omega
          have c4 : ¬ (d : Int) < (mid : Int) := by have := hA.out; have := hU.out; have := hV.out; have := hB.out; have := he.out; have := hn0.out; omega
          have c5 : (mid : Int) < (e : Int) := by have := hA.out; have := hU.out; have := hV.out; have := hB.out; have := he.out; have := hn0.out; omega
          have c6 : (e : Int) < (b : Int) := by have := hA.out; have := hU.out; have := hV.out; have := hB.out; have := he.out; have := hn0.out; omega
          obtain rfl : V = [] := List.eq_nil_of_length_eq_zero (by omega)
          have hrow1 : Blk V0 g (rowI (pre ++ A ++ ([] : List It) ++ U ++ (B ++ post)) ++ sp) 54 := by simpa using hrow0.out
          replace hrow1 := Hd.mk hrow1
          clear hrow0
          obtain ⟨L, hL1, hL2, hL3, hrow2⟩ : ∃ L, SrtLe L ∧ SameF (A ++ ([] : List It)) L ∧ L.length = (A ++ ([] : List It)).length ∧ Blk V0 g (rowI (pre ++ L ++ (U ++ B ++ post)) ++ sp) 54 := ⟨A ++ ([] : List It), srt_half (srt_app.1 hsA.out).1 (srt_app.1 hsB.out).1 (.inr rfl), SameF.refl _, rfl, by simpa using hrow1.out⟩
          clear hrow1
          replace hL1 := Hd.mk hL1
          replace hL2 := Hd.mk hL2
          replace hL3 := Hd.mk hL3
          replace hrow2 := Hd.mk hrow2
          have hc2 := Hd.mk (ih.out (pre ++ L) U B post sp g cap mid e b n V0 (by simpa using hrow2.out) (by have := hA.out; have := hU.out; have := hV.out; have := hB.out; have := he.out; have := hn0.out; have := ha.out; have := hmm.out; have := hbb.out; have := hL3.out; have := hln.out; simp only [List.length_append, List.length_nil] at *; omega) (by have := hA.out; have := hU.out; have := hV.out; have := hB.out; have := he.out; have := hn0.out; have := ha.out; have := hmm.out; have := hbb.out; have := hL3.out; have := hln.out; simp only [List.length_append, List.length_nil] at *; omega) (by have := hA.out; have := hU.out; have := hV.out; have := hB.out; have := he.out; have := hn0.out; have := ha.out; have := hmm.out; have := hbb.out; have := hL3.out; have := hln.out; simp only [List.length_append, List.length_nil] at *; omega) (by have := hA.out; have := hU.out; have := hV.out; have := hB.out; have := he.out; have := hn0.out; have := ha.out; have := hmm.out; have := hbb.out; have := hL3.out; have := hln.out; simp only [List.length_append, List.length_nil] at *; omega) hm (by have := hA.out; have := hU.out; have := hV.out; have := hB.out; have := he.out; have := hn0.out; have := ha.out; have := hmm.out; have := hbb.out; have := hL3.out; have := hln.out; simp only [List.length_append, List.length_nil] at *; omega) hU0 hB0 (srt_app.1 hsA.out).2.1 (srt_app.1 hsB.out).2.1)
          go_wp2_with fail
          refine Calls.mono hc2.out ?_
          rintro e4 w4 ⟨rfl, ⟨R, hR1, hR2, hR3, hrow3⟩, hgr2⟩
          replace hgr := Hd.mk (grown_trans hgr.out hgr2)
          clear hgr2 hc2 hrow2
          have hfin := Hd.mk (merge_two hsA.out hsB.out hVU.out hAB.out hL1.out hL2.out hR1 hR2)
          replace hR3 := Hd.mk hR3
          replace hrow3 := Hd.mk hrow3
          clear hR1 hR2
          go_wp2_with fail
          all_goals try go_end0
          all_goals exact ⟨rfl, ⟨L ++ R, by simpa using hfin.out.1, by simpa using hfin.out.2, by have h1 := hL3.out; have h2 := hR3.out; simp only [List.length_append, List.length_nil] at h1 h2 ⊢; omega, by simpa using hrow3.out⟩, hgr.out⟩
      · skip
        by_cases hV0 : 0 < V.length
        · skip
          by_cases hB0 : 0 < B.length
          · skip
            have c1 : ¬ (d : Int) < (m : Int) := by have := hA.out; have := hU.out; have := hV.out; have := hB.out; have := he.out; have := hn0.out; omega
            have c2 : (m : Int) < (e : Int) := by have := hA.out; have := hU.out; have := hV.out; have := hB.out; have := he.out; have := hn0.out; omega
            have c3 : (a : Int) < (d : Int) := by have := hA.out; have := hU.out; have := hV.out; have := hB.out; have := he.out; have := hn0.out; omega
            have c4 : (d : Int) < (mid : Int) := by have := hA.out; have := hU.out; have := hV.out; have := hB.out; have := he.out; have := hn0.out; omega
            have c5 : ¬ (mid : Int) < (e : Int) := by have := hA.out; have := hU.out; have := hV.out; have := hB.out; have := he.out; have := hn0.out; omega
            have c6 : (e : Int) < (b : Int) := by have := hA.out; have := hU.out; have := hV.out; have := hB.out; have := he.out; have := hn0.out; omega
            obtain rfl : U = [] := List.eq_nil_of_length_eq_zero (by omega)
            have hrow1 : Blk V0 g (rowI (pre ++ A ++ V ++ ([] : List It) ++ (B ++ post)) ++ sp) 54 := by simpa using hrow0.out
            replace hrow1 := Hd.mk hrow1
            clear hrow0
            have hc1 := Hd.mk (ih.out pre A V (([] : List It) ++ B ++ post) sp g cap a d mid n V0 (by simpa using hrow1.out) ha.out (by have := hA.out; have := hU.out; have := hV.out; have := hB.out; have := he.out; have := hn0.out; have := ha.out; have := hmm.out; have := hbb.out; simp only [List.length_append, List.length_nil] at *; omega) (by have := hA.out; have := hU.out; have := hV.out; have := hB.out; have := he.out; have := hn0.out; have := ha.out; have := hmm.out; have := hbb.out; simp only [List.length_append, List.length_nil] at *; omega) (by rw [hln.out]; simp only [List.length_append]; omega) hm (by have := hA.out; have := hU.out; have := hV.out; have := hB.out; have := he.out; have := hn0.out; have := ha.out; have := hmm.out; have := hbb.out; simp only [List.length_append, List.length_nil] at *; omega) hA0 hV0 (srt_app.1 hsA.out).1 (srt_app.1 hsB.out).1)
            go_wp2_with fail
            refine Calls.mono hc1.out ?_
            rintro e3 w3 ⟨rfl, ⟨L, hL1, hL2, hL3, hrow2⟩, hgr2⟩
            replace hgr := Hd.mk (grown_trans hgr.out hgr2)
            clear hgr2 hc1 hrow1
            replace hL1 := Hd.mk hL1
            replace hL2 := Hd.mk hL2
            replace hL3 := Hd.mk hL3
            replace hrow2 := Hd.mk hrow2
            obtain ⟨R, hR1, hR2, hR3, hrow3⟩ : ∃ R, SrtLe R ∧ SameF (([] : List It) ++ B) R ∧ R.length = (([] : List It) ++ B).length ∧ Blk w3 g (rowI (pre ++ L ++ R ++ post) ++ sp) 54 := ⟨([] : List It) ++ B, srt_half (srt_app.1 hsA.out).2.1 (srt_app.1 hsB.out).2.1 (.inl rfl), SameF.refl _, rfl, by simpa using hrow2.out⟩
            clear hrow2
            have hfin := Hd.mk (merge_two hsA.out hsB.out hVU.out hAB.out hL1.out hL2.out hR1 hR2)
            replace hR3 := Hd.mk hR3
            replace hrow3 := Hd.mk hrow3
            clear hR1 hR2
            go_wp2_with fail
            all_goals try go_end0
            all_goals exact ⟨rfl, ⟨L ++ R, by simpa using hfin.out.1, by simpa using hfin.out.2, by have h1 := hL3.out; have h2 := hR3.out; simp only [List.length_append, List.length_nil] at h1 h2 ⊢; omega, by simpa using hrow3.out⟩, hgr.out⟩
          · skip
            have c1 : ¬ (d : Int) < (m : Int) := by have := hA.out; have := hU.out; have := hV.out; have := hB.out; have := he.out; have := hn0.out; omega
            have c2 : (m : Int) < (e : Int) := by have := hA.out; have := hU.out; have := hV.out; have := hB.out; have := he.out; have := hn0.out; omega
            have c3 : (a : Int) < (d : Int) := by have := hA.out; have := hU.out; have := hV.out; have := hB.out; have := he.out; have := hn0.out; omega
            have c4 : (d : Int) < (mid : Int) := by have := hA.out; have := hU.out; have := hV.out; have := hB.out; have := he.out; have := hn0.out; omega
            have c5 : ¬ (mid : Int) < (e : Int) := by have := hA.out; have := hU.out; have := hV.out; have := hB.out; have := he.out; have := hn0.out; omega
            have c6 : ¬ (e : Int) < (b : Int) := by have := hA.out; have := hU.out; have := hV.out; have := hB.out; have := he.out; have := hn0.out; omega
            obtain rfl : U = [] := List.eq_nil_of_length_eq_zero (by omega)
            obtain rfl : B = [] := List.eq_nil_of_length_eq_zero (by omega)
            have hrow1 : Blk V0 g (rowI (pre ++ A ++ V ++ ([] : List It) ++ (([] : List It) ++ post)) ++ sp) 54 := by simpa using hrow0.out
            replace hrow1 := Hd.mk hrow1
            clear hrow0
            have hc1 := Hd.mk (ih.out pre A V (([] : List It) ++ ([] : List It) ++ post) sp g cap a d mid n V0 (by simpa using hrow1.out) ha.out (by have := hA.out; have := hU.out; have := hV.out; have := hB.out; have := he.out; have := hn0.out; have := ha.out; have := hmm.out; have := hbb.out; simp only [List.length_append, List.length_nil] at *; omega) (by have := hA.out; have := hU.out; have := hV.out; have := hB.out; have := he.out; have := hn0.out; have := ha.out; have := hmm.out; have := hbb.out; simp only [List.length_append, List.length_nil] at *; omega) (by rw [hln.out]; simp only [List.length_append]; omega) hm (by have := hA.out; have := hU.out; have := hV.out; have := hB.out; have := he.out; have := hn0.out; have := ha.out; have := hmm.out; have := hbb.out; simp only [List.length_append, List.length_nil] at *; omega) hA0 hV0 (srt_app.1 hsA.out).1 (srt_app.1 hsB.out).1)
            go_wp2_with fail
            refine Calls.mono hc1.out ?_
            rintro e3 w3 ⟨rfl, ⟨L, hL1, hL2, hL3, hrow2⟩, hgr2⟩
            replace hgr := Hd.mk (grown_trans hgr.out hgr2)
            clear hgr2 hc1 hrow1
            replace hL1 := Hd.mk hL1
            replace hL2 := Hd.mk hL2
            replace hL3 := Hd.mk hL3
            replace hrow2 := Hd.mk hrow2
            obtain ⟨R, hR1, hR2, hR3, hrow3⟩ : ∃ R, SrtLe R ∧ SameF (([] : List It) ++ ([] : List It)) R ∧ R.length = (([] : List It) ++ ([] : List It)).length ∧ Blk w3 g (rowI (pre ++ L ++ R ++ post) ++ sp) 54 := ⟨([] : List It) ++ ([] : List It), srt_half (srt_app.1 hsA.out).2.1 (srt_app.1 hsB.out).2.1 (.inl rfl), SameF.refl _, rfl, by simpa using hrow2.out⟩
            clear hrow2
            have hfin := Hd.mk (merge_two hsA.out hsB.out hVU.out hAB.out hL1.out hL2.out hR1 hR2)
            replace hR3 := Hd.mk hR3
            replace hrow3 := Hd.mk hrow3
            clear hR1 hR2
            go_wp2_with fail
            all_goals try go_end0
            all_goals exact ⟨rfl, ⟨L ++ R, by simpa using hfin.out.1, by simpa using hfin.out.2, by have h1 := hL3.out; have h2 := hR3.out; simp only [List.length_append, List.length_nil] at h1 h2 ⊢; omega, by simpa using hrow3.out⟩, hgr.out⟩
        · skip
          have hB0 : 0 < B.length := by omega
          have c1 : ¬ (d : Int) < (m : Int) := by have := hA.out; have := hU.out; have := hV.out; have := hB.out; have := he.out; have := hn0.out; omega
          have c2 : ¬ (m : Int) < (e : Int) := by have := hA.out; have := hU.out; have := hV.out; have := hB.out; have := he.out; have := hn0.out; omega
          have c3 : (a : Int) < (d : Int) := by have := hA.out; have := hU.out; have := hV.out; have := hB.out; have := he.out; have := hn0.out; omega
          have c4 : ¬ (d : Int) < (mid : Int) := by have := hA.out; have := hU.out; have := hV.out; have := hB.out; have := he.out; have := hn0.out; omega
          have c5 : ¬ (mid : Int) < (e : Int) := by have := hA.out; have := hU.out; have := hV.out; have := hB.out; have := he.out; have := hn0.out; omega
          have c6 : (e : Int) < (b : Int) := by have := hA.out; have := hU.out; have := hV.out; have := hB.out; have := he.out; have := hn0.out; omega
          obtain rfl : U = [] := List.eq_nil_of_length_eq_zero (by omega)
          obtain rfl : V = [] := List.eq_nil_of_length_eq_zero (by omega)
          have hrow1 : Blk V0 g (rowI (pre ++ A ++ ([] : List It) ++ ([] : List It) ++ (B ++ post)) ++ sp) 54 := by simpa using hrow0.out
          replace hrow1 := Hd.mk hrow1
          clear hrow0
          obtain ⟨L, hL1, hL2, hL3, hrow2⟩ : ∃ L, SrtLe L ∧ SameF (A ++ ([] : List It)) L ∧ L.length = (A ++ ([] : List It)).length ∧ Blk V0 g (rowI (pre ++ L ++ (([] : List It) ++ B ++ post)) ++ sp) 54 := ⟨A ++ ([] : List It), srt_half (srt_app.1 hsA.out).1 (srt_app.1 hsB.out).1 (.inr rfl), SameF.refl _, rfl, by simpa using hrow1.out⟩
          clear hrow1
          replace hL1 := Hd.mk hL1
          replace hL2 := Hd.mk hL2
          replace hL3 := Hd.mk hL3
          replace hrow2 := Hd.mk hrow2
          obtain ⟨R, hR1, hR2, hR3, hrow3⟩ : ∃ R, SrtLe R ∧ SameF (([] : List It) ++ B) R ∧ R.length = (([] : List It) ++ B).length ∧ Blk V0 g (rowI (pre ++ L ++ R ++ post) ++ sp) 54 := ⟨([] : List It) ++ B, srt_half (srt_app.1 hsA.out).2.1 (srt_app.1 hsB.out).2.1 (.inl rfl), SameF.refl _, rfl, by simpa using hrow2.out⟩
          clear hrow2
          have hfin := Hd.mk (merge_two hsA.out hsB.out hVU.out hAB.out hL1.out hL2.out hR1 hR2)
          replace hR3 := Hd.mk hR3
          replace hrow3 := Hd.mk hrow3
          clear hR1 hR2
          go_wp2_with fail
          all_goals try go_end0
          all_goals exact ⟨rfl, ⟨L ++ R, by simpa using hfin.out.1, by simpa using hfin.out.2, by have h1 := hL3.out; have h2 := hR3.out; simp only [List.length_append, List.length_nil] at h1 h2 ⊢; omega, by simpa using hrow3.out⟩, hgr.out⟩
    · skip
      have hU0 : 0 < U.length := by omega
      by_cases hV0 : 0 < V.length
      · skip
        by_cases hB0 : 0 < B.length
        · skip
          have c1 : (d : Int) < (m : Int) := by have := hA.out; have := hU.out; have := hV.out; have := hB.out; have := he.out; have := hn0.out; omega
          have c2 : (m : Int) < (e : Int) := by have := hA.out; have := hU.out; have := hV.out; have := hB.out; have := he.out; have := hn0.out; omega
          have c3 : ¬ (a : Int) < (d : Int) := by have := hA.out; have := hU.out; have := hV.out; have := hB.out; have := he.out; have := hn0.out; omega
          have c4 : (d : Int) < (mid : Int) := by have := hA.out; have := hU.out; have := hV.out; have := hB.out; have := he.out; have := hn0.out; omega
          have c5 : (mid : Int) < (e : Int) := by have := hA.out; have := hU.out; have := hV.out; have := hB.out; have := he.out; have := hn0.out; omega
          have c6 : (e : Int) < (b : Int) := by have := hA.out; have := hU.out; have := hV.out; have := hB.out; have := he.out; have := hn0.out; omega
          obtain rfl : A = [] := List.eq_nil_of_length_eq_zero (by omega)
          have hc0 := Hd.mk (rotate (pre ++ ([] : List It)) U V (B ++ post) sp g cap d m e n V0 hrow0.out (by have := hA.out; have := hU.out; have := hV.out; have := hB.out; have := he.out; have := hn0.out; have := ha.out; have := hmm.out; have := hbb.out; simp only [List.length_append, List.length_nil] at *; omega) (by have := hA.out; have := hU.out; have := hV.out; have := hB.out; have := he.out; have := hn0.out; have := ha.out; have := hmm.out; have := hbb.out; simp only [List.length_append, List.length_nil] at *; omega) (by have := hA.out; have := hU.out; have := hV.out; have := hB.out; have := he.out; have := hn0.out; have := ha.out; have := hmm.out; have := hbb.out; simp only [List.length_append, List.length_nil] at *; omega) hU0 hV0 hln.out hm)
          go_wp2_with fail
          refine Calls.mono hc0.out ?_
          rintro e2 w2 ⟨rfl, hrow1, hgr2⟩
          replace hrow1 := Hd.mk hrow1
          replace hgr := Hd.mk (grown_trans hgr.out hgr2)
          clear hgr2 hc0 hrow0
          obtain ⟨L, hL1, hL2, hL3, hrow2⟩ : ∃ L, SrtLe L ∧ SameF (([] : List It) ++ V) L ∧ L.length = (([] : List It) ++ V).length ∧ Blk w2 g (rowI (pre ++ L ++ (U ++ B ++ post)) ++ sp) 54 := ⟨([] : List It) ++ V, srt_half (srt_app.1 hsA.out).1 (srt_app.1 hsB.out).1 (.inl rfl), SameF.refl _, rfl, by simpa using hrow1.out⟩
          clear hrow1
          replace hL1 := Hd.mk hL1
          replace hL2 := Hd.mk hL2
          replace hL3 := Hd.mk hL3
          replace hrow2 := Hd.mk hrow2
          have hc2 := Hd.mk (ih.out (pre ++ L) U B post sp g cap mid e b n w2 (by simpa using hrow2.out) (by have := hA.out; have := hU.out; have := hV.out; have := hB.out; have := he.out; have := hn0.out; have := ha.out; have := hmm.out; have := hbb.out; have := hL3.out; have := hln.out; simp only [List.length_append, List.length_nil] at *; omega) (by have := hA.out; have := hU.out; have := hV.out; have := hB.out; have := he.out; have := hn0.out; have := ha.out; have := hmm.out; have := hbb.out; have := hL3.out; have := hln.out; simp only [List.length_append, List.length_nil] at *; omega) (by have := hA.out; have := hU.out; have := hV.out; have := hB.out; have := he.out; have := hn0.out; have := ha.out; have := hmm.out; have := hbb.out; have := hL3.out; have := hln.out; simp only [List.length_append, List.length_nil] at *; omega) (by have := hA.out; have := hU.out; have := hV.out; have := hB.out; have := he.out; have := hn0.out; have := ha.out; have := hmm.out; have := hbb.out; have := hL3.out; have := hln.out; simp only [List.length_append, List.length_nil] at *; omega) hm (by have := hA.out; have := hU.out; have := hV.out; have := hB.out; have := he.out; have := hn0.out; have := ha.out; have := hmm.out; have := hbb.out; have := hL3.out; have := hln.out; simp only [List.length_append, List.length_nil] at *; omega) hU0 hB0 (srt_app.1 hsA.out).2.1 (srt_app.1 hsB.out).2.1)
          go_wp2_with fail
          refine Calls.mono hc2.out ?_
          rintro e4 w4 ⟨rfl, ⟨R, hR1, hR2, hR3, hrow3⟩, hgr2⟩
          replace hgr := Hd.mk (grown_trans hgr.out hgr2)
          clear hgr2 hc2 hrow2
          have hfin := Hd.mk (merge_two hsA.out hsB.out hVU.out hAB.out hL1.out hL2.out hR1 hR2)
          replace hR3 := Hd.mk hR3
          replace hrow3 := Hd.mk hrow3
          clear hR1 hR2
          go_wp2_with fail
          all_goals try go_end0
          all_goals exact ⟨rfl, ⟨L ++ R, by simpa using hfin.out.1, by simpa using hfin.out.2, by have h1 := hL3.out; have h2 := hR3.out; simp only [List.length_append, List.length_nil] at h1 h2 ⊢; omega, by simpa using hrow3.out⟩, hgr.out⟩
        · skip
          have c1 : (d : Int) < (m : Int) := by have := hA.out; have := hU.out; have := hV.out; have := hB.out; have := he.out; have := hn0.out; omega
          have c2 : (m : Int) < (e : Int) := by have := hA.out; have := hU.out; have := hV.out; have := hB.out; have := he.out; have := hn0.out; omega
          have c3 : ¬ (a : Int) < (d : Int) := by have := hA.out; have := hU.out; have := hV.out; have := hB.out; have := he.out; have := hn0.out; omega
          have c4 : (d : Int) < (mid : Int) := by have := hA.out; have := hU.out; have := hV.out; have := hB.out; have := he.out; have := hn0.out; omega
          have c5 : (mid : Int) < (e : Int) := by have := hA.out; have := hU.out; have := hV.out; have := hB.out; have := he.out; have := hn0.out; omega
          have c6 : ¬ (e : Int) < (b : Int) := by have := hA.out; have := hU.out; have := hV.out; have := hB.out; have := he.out; have := hn0.out; omega
          obtain rfl : A = [] := List.eq_nil_of_length_eq_zero (by omega)
          obtain rfl : B = [] := List.eq_nil_of_length_eq_zero (by omega)
          have hc0 := Hd.mk (rotate (pre ++ ([] : List It)) U V (([] : List It) ++ post) sp g cap d m e n V0 hrow0.out (by have := hA.out; have := hU.out; have := hV.out; have := hB.out; have := he.out; have := hn0.out; have := ha.out; have := hmm.out; have := hbb.out; simp only [List.length_append, List.length_nil] at *; omega) (by have := hA.out; have := hU.out; have := hV.out; have := hB.out; have := he.out; have := hn0.out; have := ha.out; have := hmm.out; have := hbb.out; simp only [List.length_append, List.length_nil] at *; omega) (by have := hA.out; have := hU.out; have := hV.out; have := hB.out; have := he.out; have := hn0.out; have := ha.out; have := hmm.out; have := hbb.out; simp only [List.length_append, List.length_nil] at *; omega) hU0 hV0 hln.out hm)
          go_wp2_with fail
          refine Calls.mono hc0.out ?_
          rintro e2 w2 ⟨rfl, hrow1, hgr2⟩
          replace hrow1 := Hd.mk hrow1
          replace hgr := Hd.mk (grown_trans hgr.out hgr2)
          clear hgr2 hc0 hrow0
          obtain ⟨L, hL1, hL2, hL3, hrow2⟩ : ∃ L, SrtLe L ∧ SameF (([] : List It) ++ V) L ∧ L.length = (([] : List It) ++ V).length ∧ Blk w2 g (rowI (pre ++ L ++ (U ++ ([] : List It) ++ post)) ++ sp) 54 := ⟨([] : List It) ++ V, srt_half (srt_app.1 hsA.out).1 (srt_app.1 hsB.out).1 (.inl rfl), SameF.refl _, rfl, by simpa using hrow1.out⟩
          clear hrow1
          replace hL1 := Hd.mk hL1
          replace hL2 := Hd.mk hL2
          replace hL3 := Hd.mk hL3
          replace hrow2 := Hd.mk hrow2
          obtain ⟨R, hR1, hR2, hR3, hrow3⟩ : ∃ R, SrtLe R ∧ SameF (U ++ ([] : List It)) R ∧ R.length = (U ++ ([] : List It)).length ∧ Blk w2 g (rowI (pre ++ L ++ R ++ post) ++ sp) 54 := ⟨U ++ ([] : List It), srt_half (srt_app.1 hsA.out).2.1 (srt_app.1 hsB.out).2.1 (.inr rfl), SameF.refl _, rfl, by simpa using hrow2.out⟩
          clear hrow2
          have hfin := Hd.mk (merge_two hsA.out hsB.out hVU.out hAB.out hL1.out hL2.out hR1 hR2)
          replace hR3 := Hd.mk hR3
          replace hrow3 := Hd.mk hrow3
          clear hR1 hR2
          go_wp2_with fail
          all_goals try go_end0
          all_goals exact ⟨rfl, ⟨L ++ R, by simpa using hfin.out.1, by simpa using hfin.out.2, by have h1 := hL3.out; have h2 := hR3.out; simp only [List.length_append, List.length_nil] at h1 h2 ⊢; omega, by simpa using hrow3.out⟩, hgr.out⟩
      · skip
        have hB0 : 0 < B.length := by omega
        have c1 : (d : Int) < (m : Int) := by have := hA.out; have := hU.out; have := hV.out; have := hB.out; have := he.out; have := hn0.out; omega
        have c2 : ¬ (m : Int) < (e : Int) := by have := hA.out; have := hU.out; have := hV.out; have := hB.out; have := he.out; have := hn0.out; omega
        have c3 : ¬ (a : Int) < (d : Int) := by have := hA.out; have := hU.out; have := hV.out; have := hB.out; have := he.out; have := hn0.out; omega
        have c4 : ¬ (d : Int) < (mid : Int) := by have := hA.out; have := hU.out; have := hV.out; have := hB.out; have := he.out; have := hn0.out; omega
        have c5 : (mid : Int) < (e : Int) := by have := hA.out; have := hU.out; have := hV.out; have := hB.out; have := he.out; have := hn0.out; omega
        have c6 : (e : Int) < (b : Int) := by have := hA.out; have := hU.out; have := hV.out; have := hB.out; have := he.out; have := hn0.out; omega
        obtain rfl : A = [] := List.eq_nil_of_length_eq_zero (by omega)
        obtain rfl : V = [] := List.eq_nil_of_length_eq_zero (by omega)
        have hrow1 : Blk V0 g (rowI (pre ++ ([] : List It) ++ ([] : List It) ++ U ++ (B ++ post)) ++ sp) 54 := by simpa using hrow0.out
        replace hrow1 := Hd.mk hrow1
        clear hrow0
        obtain ⟨L, hL1, hL2, hL3, hrow2⟩ : ∃ L, SrtLe L ∧ SameF (([] : List It) ++ ([] : List It)) L ∧ L.length = (([] : List It) ++ ([] : List It)).length ∧ Blk V0 g (rowI (pre ++ L ++ (U ++ B ++ post)) ++ sp) 54 := ⟨([] : List It) ++ ([] : List It), srt_half (srt_app.1 hsA.out).1 (srt_app.1 hsB.out).1 (.inl rfl), SameF.refl _, rfl, by simpa using hrow1.out⟩
        clear hrow1
        replace hL1 := Hd.mk hL1
        replace hL2 := Hd.mk hL2
        replace hL3 := Hd.mk hL3
        replace hrow2 := Hd.mk hrow2
        have hc2 := Hd.mk (ih.out (pre ++ L) U B post sp g cap mid e b n V0 (by simpa using hrow2.out) (by have := hA.out; have := hU.out; have := hV.out; have := hB.out; have := he.out; have := hn0.out; have := ha.out; have := hmm.out; have := hbb.out; have := hL3.out; have := hln.out; simp only [List.length_append, List.length_nil] at *; omega) (by have := hA.out; have := hU.out; have := hV.out; have := hB.out; have := he.out; have := hn0.out; have := ha.out; have := hmm.out; have := hbb.out; have := hL3.out; have := hln.out; simp only [List.length_append, List.length_nil] at *; omega) (by have := hA.out; have := hU.out; have := hV.out; have := hB.out; have := he.out; have := hn0.out; have := ha.out; have := hmm.out; have := hbb.out; have := hL3.out; have := hln.out; simp only [List.length_append, List.length_nil] at *; omega) (by have := hA.out; have := hU.out; have := hV.out; have := hB.out; have := he.out; have := hn0.out; have := ha.out; have := hmm.out; have := hbb.out; have := hL3.out; have := hln.out; simp only [List.length_append, List.length_nil] at *; omega) hm (by have := hA.out; have := hU.out; have := hV.out; have := hB.out; have := he.out; have := hn0.out; have := ha.out; have := hmm.out; have := hbb.out; have := hL3.out; have := hln.out; simp only [List.length_append, List.length_nil] at *; omega) hU0 hB0 (srt_app.1 hsA.out).2.1 (srt_app.1 hsB.out).2.1)
        go_wp2_with fail
        refine Calls.mono hc2.out ?_
        rintro e4 w4 ⟨rfl, ⟨R, hR1, hR2, hR3, hrow3⟩, hgr2⟩
        replace hgr := Hd.mk (grown_trans hgr.out hgr2)
        clear hgr2 hc2 hrow2
        have hfin := Hd.mk (merge_two hsA.out hsB.out hVU.out hAB.out hL1.out hL2.out hR1 hR2)
        replace hR3 := Hd.mk hR3
        replace hrow3 := Hd.mk hrow3
        clear hR1 hR2
        go_wp2_with fail
        all_goals try go_end0
        all_goals exact ⟨rfl, ⟨L ++ R, by simpa using hfin.out.1, by simpa using hfin.out.2, by have h1 := hL3.out; have h2 := hR3.out; simp only [List.length_append, List.length_nil] at h1 h2 ⊢; omega, by simpa using hrow3.out⟩, hgr.out⟩
set_option maxHeartbeats 1000000 in
theorem sym_at : ∀ N, SymAt N := by
  intro N
  induction N with
  | zero => intro pre s1 s2 post sp g cap a m b n w _ _ _ _ _ _ h; exact absurd h (Nat.not_lt_zero _)
  | succ N ih =>
    intro pre s1 s2 post sp g cap a m b n w hb ha hm hbb hn hmx hN h1 h2 hs1 hs2
    by_cases e1 : s1.length = 1
    · obtain ⟨x, rfl⟩ := List.length_eq_one_iff.1 e1
      exact sym_first pre x s2 post sp g cap a m b n w hb ha hm hbb hn hmx hs2
    · by_cases e2 : s2.length = 1
      · obtain ⟨y, rfl⟩ := List.length_eq_one_iff.1 e2
        exact sym_last pre s1 y post sp g cap a m b n w hb ha hm hbb hn hmx hs1 e1
      · by_cases hg : (a + b) / 2 < m
        · exact sym_big_T N ih pre s1 s2 post sp g cap a m b n _ w hb ha hm hbb hn hmx (by omega) (by omega) (by omega) hs1 hs2 rfl hg
        · exact sym_big_F N ih pre s1 s2 post sp g cap a m b n _ w hb ha hm hbb hn hmx (by omega) (by omega) (by omega) hs1 hs2 rfl hg
theorem sym_ok (L : Nat) (hL : L ≤ 1048576) : SymOK L := fun pre s1 s2 post sp g cap a m b n w hb ha hm hbb hn _ hnL h1 h2 hs1 hs2 =>
  sym_at (s1.length + s2.length + 1) pre s1 s2 post sp g cap a m b n w hb ha hm hbb hn (Nat.le_trans hnL hL) (Nat.lt_succ_self _) h1 h2 hs1 hs2
end Go.Proofs.Ytgkgedjmnbjalaa
set_option linter.unusedSimpArgs false
namespace Go.Proofs.Ytgkgedjmnbjalaa
open Go.RowKit Go.Sort
theorem sh_cells {b o : Nat} {w : World} {x0 x1 x2 x3 x4 x5 : Value} (h : ∀ (j : Nat) v, [x0, x1, x2, x3, x4, x5][j]? = some v → w.cell? ⟨b, o + j, none⟩ = some v) : w.cell? ⟨b, o, none⟩ = some x0 ∧ w.cell? ⟨b, o + 3, none⟩ = some x3 :=
  ⟨h 0 _ rfl, h 3 _ rfl⟩
set_option maxRecDepth 100000 in
set_option maxHeartbeats 4000000 in
theorem over09 : ∀ (N : Nat) (S : Nat → Prop) (w : World) (nm ky : ByteArray) (kd num : Int) (tx : ByteArray) (K : Option Addr) (n kc : Nat), SH S w N K n → (∀ b, S b → b < w.heap.size) → n ≤ kc →
    Calls Try.prog 74 #[.agg #[.string nm, .string ky, .int .i64 kd, .int .u64 num, .string tx, .slice K n kc]] w fun e w' => e = .returned (.tuple #[]) ∧ Touch S w w'
  | 0, _, _, _, _, _, _, _, _, _, _, h, _, _ => absurd h (by simp [SH])
  | N + 1, S, w, nm, ky, kd, num, tx, K, n, kc, h, hS, hcap => by
    have ih := Hd.mk (over09 N)
    have hn := h.1
    have hS0 := Hd.mk (show ¬ S w.heap.size from fun h => Nat.lt_irrefl _ (hS _ h))
    replace h := Hd.mk h
    replace hS := Hd.mk hS
    go_enter Try.func74, Try.ntmps74
    go_wp2_with fail
    have kB := Hd.mk (Blk.new w #[.string nm, .string ky, .int .i64 kd, .int .u64 num, .string tx, .slice K n kc] 54)
    have hT := Hd.mk (Touch.of_ext (S := S) (Ext.alloc w (.cells #[.string nm, .string ky, .int .i64 kd, .int .u64 num, .string tx, .slice K n kc] 54)))
    generalize hp : w.heap.size = p at *
    replace hp := Hd.mk hp
    generalize w.alloc _ = W at *
    go_loopg [2] (n + 1) (fun q si wr => ∃ i : Nat, i ≤ n ∧ Hd (n - i < q) ∧ si = .int .i64 i ∧ Hd (Touch S w wr) ∧ Hd (Blk wr p [.string nm, .string ky, .int .i64 kd, .int .u64 num, .string tx, .slice K n kc] 54))
    case atStart => exact ⟨0, Nat.zero_le _, ⟨by omega⟩, rfl, hT, kB⟩
    case round =>
    clear hT kB
    obtain ⟨i, hi, hq, rfl, hT, kB⟩ := hrel
    generalize wr = V0 at *
    have gB := kB.out.cell
    by_cases hlt : i < n
    · have hlti : (i : Int) < (n : Int) := by omega
      obtain ⟨b, off, nm1, ky1, kd1, num1, tx1, K1, n1, kc1, rfl, hb, hf, hc1, hnul, hcells, hsh⟩ := (h.out.touch hT.out).2 i hlt
      obtain ⟨e0, e1, e2, e3, e4, e5⟩ := six (Ext.refl V0) hcells
      have hc := Hd.mk (ih.out S V0 nm1 ky1 kd1 num1 tx1 K1 n1 kc1 hsh (fun x hx => Nat.lt_of_lt_of_le (hS.out x hx) (by have := hT.out.size; rw [hp.out] at this; exact this)) hc1)
      replace hb := Hd.mk hb
      clear hf hnul hcells hsh
      go_wp2_with fail
      refine Calls.mono hc.out ?_
      rintro e w2 ⟨rfl, hT2⟩
      replace hT := Hd.mk (hT.out.trans hT2)
      replace kB := Hd.mk (kB.out.touch hT2 hS0.out)
      clear hT2 hc e0 e1 e2 e3 e4 e5 gB
      have gB := kB.out.cell
      obtain ⟨b', off', nm1, ky1, kd1, num1, tx1, K1, n1, kc1, hK, hb', hf, hc1, hnul, hcells, hsh⟩ := (h.out.touch hT.out).2 i hlt
      simp only [Option.some.injEq, Addr.mk.injEq, and_true] at hK
      obtain ⟨rfl, rfl⟩ := hK
      obtain ⟨e0, e3⟩ := sh_cells hcells
      obtain ⟨cs0, hbl⟩ := hf
      have hfr := hbl.free
      have t1 := Hd.mk (Touch.set (S := S) e0 (.inr (.inl ⟨_, ⟨#[111, 118, 101, 114]⟩, rfl, rfl⟩)) hb.out)
      have e3' := (World.cell?_setCell_other w2 ⟨b, off + i * 6, none⟩ ⟨b, off + i * 6 + 3, none⟩ (.string ⟨#[111, 118, 101, 114]⟩) (by simp)).trans e3
      have t2 := Hd.mk (Touch.set (S := S) (u := .int .u64 99) e3' (.inr (.inr ⟨_, _, rfl, rfl⟩)) hb.out)
      have hpb : p ≠ b := fun e => hS0.out (e ▸ hb.out)
      have hbp : b ≠ p := fun e => hpb e.symm
      clear hbl hcells hsh hnul e3'
      go_wp2_with fail
      go_roundg (n - i)
      case measure => have := hq.out; omega
      case rel => exact ⟨i + 1, by omega, ⟨by omega⟩, by go_num, ⟨(hT.out.trans t1.out).trans t2.out⟩, ⟨(kB.out.touch t1.out hS0.out).touch t2.out hS0.out⟩⟩
    · have hlti : ¬ (i : Int) < (n : Int) := by omega
      go_wp2_with fail
      go_end0
      exact ⟨rfl, hT.out⟩
end Go.Proofs.Ytgkgedjmnbjalaa
set_option linter.unusedSimpArgs false
namespace Go.Proofs.Ytgkgedjmnbjalaa
open Go.RowKit Go.Sort
theorem agg_inj {c d : List Value} (h : Value.agg c.toArray = .agg d.toArray) : c = d := by injection h with h; simpa using h
theorem xt_no {C : Array Nat} {F : Tmp → SP} {G : Act → World → Prop} {J : Value → Value → World → Prop} {s x tx : Nat} {Y : List (Nat × Tmp)} {i : Nat} {a : Act} {w : World} {v : Value} {w' : World} (h1 : i ≠ s) (h2 : i ≠ x) (h3 : (Y.all fun p => p.1 != i) = true) : FlowJ.Xt C F G J s x tx Y i a w v w' :=
  ⟨fun h => absurd h h1, fun h => absurd h h2, fun p hp h => by
    rw [List.all_eq_true] at h3
    have := h3 p hp
    rw [← h] at this
    simp at this⟩
theorem over_ne {k : Tmp} {q : SP} {l : List (Tmp × SP)} {F : Tmp → SP} {t : Tmp} (h : t ≠ k) : FlowJ.over ((k, q) :: l) F t = FlowJ.over l F t := by
  have hb : Nat.beq t k = false := by
    cases hb : Nat.beq t k
    · rfl
    · exact absurd (Nat.eq_of_beq_eq_true hb) h
  rw [FlowJ.over, hb]
  rfl
end Go.Proofs.Ytgkgedjmnbjalaa
set_option linter.unusedSimpArgs false
namespace Go.Proofs.Ytgkgedjmnbjalaa
open Go.RowKit Go.Sort
def NewPost (t : T) (xs : List Value) (w w' : World) (v : Value) : Prop := ∃ c : List Value, v = .tuple (Value.agg c.toArray :: xs).toArray ∧ RT (fun b => w.heap.size ≤ b) w' t c ∧ Ext w w'
def spTupX (t : T) (xs : List Value) : SP := ⟨fun v w => ∃ c : List Value, v = .tuple (Value.agg c.toArray :: xs).toArray ∧ RT (fun _ => True) w t c, fun _ _ _ hx ⟨c, e, h⟩ => ⟨c, e, h.ext hx⟩⟩
def spAggX (t : T) : SP := ⟨fun v w => ∃ c : List Value, v = .agg c.toArray ∧ RT (fun _ => True) w t c, fun _ _ _ hx ⟨c, e, h⟩ => ⟨c, e, h.ext hx⟩⟩
def spFormX (xs : List Value) : SP := ⟨fun v _ => ∃ c : List Value, v = .tuple (Value.agg c.toArray :: xs).toArray, fun _ _ _ _ h => h⟩
def JX (t : T) (xs : List Value) (u v : Value) (w : World) : Prop := ∀ D (c : List Value), u = .pointer (some ⟨D, 0, none⟩) → (v = .tuple (Value.agg c.toArray :: xs).toArray ∨ v = .agg c.toArray) → RT (fun b => b ≠ D) w t c
theorem jx_mono (t : T) (xs : List Value) : ∀ u u' w w', Ext w w' → JX t xs u u' w → JX t xs u u' w' := fun _ _ _ _ hx h D c h1 h2 => (h D c h1 h2).ext hx
theorem tupx_inj {c d : List Value} {xs : List Value} (h : Value.tuple (Value.agg c.toArray :: xs).toArray = .tuple (Value.agg d.toArray :: xs).toArray) : c = d := by
  injection h with h
  have h2 := List.toArray_inj h
  injection h2 with h3
  exact agg_inj h3
theorem jx_call {t : T} {xs : List Value} {B : Nat} {w w' : World} {c : List Value} (h : RT (fun b => w.heap.size ≤ b) w' t c) {u : Value} (hu : (spBoxE B).p u w) : JX t xs u (.tuple (Value.agg c.toArray :: xs).toArray) w' := by
  intro D d h1 h2
  obtain ⟨D', rfl, hD, cc, hb, _⟩ := hu
  have hlt := hb.lt
  obtain rfl : D' = D := by injection h1 with h1; injection h1 with h1; injection h1
  rcases h2 with h2 | h2
  · obtain rfl := tupx_inj h2
    exact h.mono fun b _ hb => by omega
  · cases h2
theorem jx_alloc {t : T} {xs : List Value} {w : World} {o : Obj} {v : Value} (h : (spTupX t xs).p v w ∨ (spAggX t).p v w) : JX t xs (.pointer (some ⟨w.heap.size, 0, none⟩)) v (w.alloc o) := by
  intro D d h1 h2
  obtain rfl : w.heap.size = D := by injection h1 with h1; injection h1 with h1; injection h1
  have hd : RT (fun _ => True) w t d := by
    rcases h with ⟨c, rfl, h⟩ | ⟨c, rfl, h⟩
    · rcases h2 with h2 | h2
      · rw [← tupx_inj h2]; exact h
      · cases h2
    · rcases h2 with h2 | h2
      · cases h2
      · rw [← agg_inj h2]; exact h
  exact (hd.mono fun b hb _ => Nat.ne_of_lt hb).ext (Ext.alloc _ _)
theorem jx_take {t : T} {xs : List Value} {w : World} {u : Value} {c : List Value} (h : JX t xs u (.tuple (Value.agg c.toArray :: xs).toArray) w) : JX t xs u (.agg c.toArray) w := by
  intro D d h1 h2
  rcases h2 with h2 | h2
  · cases h2
  · rw [← agg_inj h2]; exact h D c h1 (.inl rfl)
def GX (tx : Nat) (t : T) (a : Act) (w : World) : Prop := ∀ D, a.tmps.getD tx undef = .pointer (some ⟨D, 0, none⟩) → ∃ c : List Value, Blk w D c 54 ∧ RT (fun b => b ≠ D) w t c
theorem gx_ext (tx : Nat) (t : T) : ∀ a w w', Ext w w' → GX tx t a w → GX tx t a w' := fun a w w' hx h D hD => by
  obtain ⟨c, h1, h2⟩ := h D hD
  exact ⟨c, h1.ext hx, h2.ext hx⟩
end Go.Proofs.Ytgkgedjmnbjalaa
set_option linter.unusedSimpArgs false
namespace Go.Proofs.Ytgkgedjmnbjalaa
open Go.RowKit Go.Sort
def lfA : T := .mk ⟨#[97]⟩ ⟨#[]⟩ 1 5 ⟨#[]⟩ []
def lfB : T := .mk ⟨#[98]⟩ ⟨#[]⟩ 1 5 ⟨#[]⟩ []
theorem a_lt_b : lessT lfA lfB = true := by kernel_rfl
theorem a_lt_a : lessT lfA lfA = false := lessT_irr _
def n9 : T := zeroT.wk [lfA]
def m9 : T := zeroT.wk [lfA, lfB]
def o9 : T := zeroT.wk [lfB]
theorem ne_ab : stepT lfA ≠ stepT lfB := less_ne a_lt_b
theorem n9_right : rightT n9 = true := by simp [rightT, rightL, n9, zeroT, T.wk, lfA, T.name, T.key, T.kind, T.num, T.text, T.kids]
theorem m9_right : rightT m9 = true := by
  refine (right_box (t := m9) rfl).2 ⟨rfl, rfl, fun x hx => ?_, ?_⟩
  · simp [m9, T.wk, T.kids] at hx
    rcases hx with rfl | rfl <;> simp [rightT, rightL, lfA, lfB, T.kind, T.num, T.text, T.kids]
  · show List.Pairwise _ [lfA, lfB]
    simp [a_lt_b]
theorem set9 : setR n9 [stepT lfB] lfB = (m9, 0) := by
  rw [setR_one, if_pos rfl]
  have h : setL n9.kids lfB = [lfA, lfB] := by
    show setL [lfA] lfB = _
    have : kid [lfA] (stepT lfB) = none := kid_none.2 (fun x hx => by simp at hx; subst hx; exact ne_ab)
    rw [setL, this, if_neg (by simp)]
    simp [insL, a_lt_b]
  rw [h]
  rfl
theorem cut9 : cutR m9 [stepT lfA] = (o9, 0) := by
  rw [cutR_one]
  have h : kid m9.kids (stepT lfA) = some lfA := by simp [kid, m9, T.wk, T.kids]
  rw [h]
  simp [cutL, m9, o9, T.wk, T.kids, T.name, T.key, T.kind, T.num, T.text]
theorem get9b : getT o9 [stepT lfB] = some lfB := by rw [getT_one]; simp [kid, o9, T.wk, T.kids]
theorem get9a : getT o9 [stepT lfA] = none := by rw [getT_one]; exact kid_none.2 (fun x hx => by simp [o9, T.wk, T.kids] at hx; subst hx; exact Ne.symm ne_ab)
theorem size9 : m9.size = 3 := rfl
theorem same9 : sameT n9 n9 = true ∧ sameT n9 m9 = false := by
  refine ⟨sameT_rfl _, ?_⟩
  cases h : sameT n9 m9 with
  | false => rfl
  | true => have := congrArg (fun t => t.kids.length) (sameT_iff.1 h); cases this
theorem sort9 : (sortT m9).kids.length = 2 := by rw [sortT_right _ m9_right]; rfl
theorem run_kids (a b c d e f : Value) (w : World) : Sem.run Try.prog (Instr.field 54 (.agg #[a, b, c, d, e, f]) 3) w = .ok f w := by
  have h1 := Try.underlying54
  have h2 := Try.underlying52
  simp [Instr.field, Sem.run_bind, Result.andThen, asAgg, part, isAgg, underlying, h1, h2]
theorem lf_rt (w : World) (nm : ByteArray) : RT (fun _ => True) w (.mk nm ⟨#[]⟩ 1 5 ⟨#[]⟩ []) [.string nm, .string ⟨#[]⟩, .int .i64 1, .int .u64 5, .string ⟨#[]⟩, .slice none 0 0] :=
  RT.of_row (t := .mk nm ⟨#[]⟩ 1 5 ⟨#[]⟩ []) (K := none) (kc := 0) (RRow.nil _ _ _ _ (fun _ => rfl))
theorem n9_rt {w : World} {g : Nat} (h : Blk w g [.string ⟨#[97]⟩, .string ⟨#[]⟩, .int .i64 1, .int .u64 5, .string ⟨#[]⟩, .slice none 0 0] 54) : RT (fun _ => True) w n9 [.string ⟨#[]⟩, .string ⟨#[]⟩, .int .i64 0, .int .u64 0, .string ⟨#[]⟩, .slice (some ⟨g, 0, none⟩) 1 1] :=
  RT.of_row (t := n9) (K := some ⟨g, 0, none⟩) (kc := 1) ⟨Nat.le_refl _, by simp [n9, T.wk, T.kids], fun h => (by cases h), fun i k hi => by
    cases i with
    | zero => simp [n9, T.wk, T.kids] at hi; subst hi; exact ⟨g, 0, _, rfl, trivial, lf_rt w ⟨#[97]⟩, fun j v hv => by rw [show 0 + 0 * 6 + j = j by omega, h.cell]; exact hv⟩
    | succ i => simp [n9, T.wk, T.kids] at hi⟩
theorem way1 {w : World} {g : Nat} {nm : ByteArray} (h : Blk w g [.string nm, .string ⟨#[]⟩] 65) : WRow (fun _ => True) w (some ⟨g, 0, none⟩) [(nm, ⟨#[]⟩)] 1 :=
  ⟨Nat.le_refl _, by simp, fun h => (by cases h), fun _ => ⟨g, 0, rfl, trivial, fun j v hv => by rw [Nat.zero_add, h.cell]; exact hv⟩⟩
set_option maxRecDepth 100000 in
set_option maxHeartbeats 2000000 in
theorem law_leaf (nm : ByteArray) (w : World) : Calls Try.prog 113 #[.string nm] w fun e w' => e = .returned (.agg #[.string nm, .string ⟨#[]⟩, .int .i64 1, .int .u64 5, .string ⟨#[]⟩, .slice none 0 0]) ∧ Ext w w' := by
  go_enter Try.func113, Try.ntmps113
  go_wp2_with fail
  exact ret_box rfl w.heap.size _ 54 _ (Blk.new w #[.string nm, .string ⟨#[]⟩, .int .i64 1, .int .u64 5, .string ⟨#[]⟩, .slice none 0 0] 54) rfl rfl Try.underlying54 rfl size54 ⟨rfl, Ext.alloc _ _⟩
set_option maxRecDepth 100000 in
set_option maxHeartbeats 2000000 in
theorem awake09 (w : World) : Calls Try.prog 59 #[] w fun e w' => e = .returned (.bool true) ∧ Ext w w' := by
  go_enter Try.func59, Try.ntmps59
  go_wp2_with fail
  refine Calls.mono (law_leaf ⟨#[97]⟩ _) ?_
  rintro e w1 ⟨rfl, hx⟩
  go_wp2_with fail
  have hset := Hd.mk (fun W' A' c' (h : RT (fun _ => True) W' n9 c') (hw : WRow (fun _ => True) W' A' [stepT lfB] 1) => (show Calls Try.prog 70 _ W' (Ret (NewPost m9 [.int .i64 0] W')) from by have h9 := tree_set n9 lfB [stepT lfB] (fun _ => True) (fun _ => True) (fun _ => True) W' c' _ A' 1 h (lf_rt W' ⟨#[98]⟩) hw n9_right (by decide); rw [set9] at h9; exact Calls.mono h9 (fun e' w'' ⟨v, h1, c, h2, h3, h4⟩ => ⟨v, h1, c, h2, h3.rt.mono fun b _ hb => hb.1, h4⟩)))
  have kx := Hd.mk ((hx.trans (Ext.alloc w1 (.cells #[.string ⟨#[97]⟩, .string ⟨#[]⟩, .int .i64 1, .int .u64 5, .string ⟨#[]⟩, .slice none 0 0] 54))).trans (Ext.alloc _ (.cells #[.string ⟨#[]⟩, .string ⟨#[]⟩, .int .i64 0, .int .u64 0, .string ⟨#[]⟩, .slice (some ⟨w1.heap.size, 0, none⟩) 1 1] 54)))
  have kL := Hd.mk ((Blk.new w1 #[.string ⟨#[97]⟩, .string ⟨#[]⟩, .int .i64 1, .int .u64 5, .string ⟨#[]⟩, .slice none 0 0] 54).alloc (.cells #[.string ⟨#[]⟩, .string ⟨#[]⟩, .int .i64 0, .int .u64 0, .string ⟨#[]⟩, .slice (some ⟨w1.heap.size, 0, none⟩) 1 1] 54))
  have kN := Hd.mk (Blk.new2 w1 (.cells #[.string ⟨#[97]⟩, .string ⟨#[]⟩, .int .i64 1, .int .u64 5, .string ⟨#[]⟩, .slice none 0 0] 54) #[.string ⟨#[]⟩, .string ⟨#[]⟩, .int .i64 0, .int .u64 0, .string ⟨#[]⟩, .slice (some ⟨w1.heap.size, 0, none⟩) 1 1] 54)
  clear hx
  generalize hpL : w1.heap.size = pL at *
  replace hpL := Hd.mk hpL
  generalize (w1.alloc _).alloc _ = W at *
  have hrn := Hd.mk (n9_rt kL.out)
  clear kL
  refine FlowJ.wp_region_flow_l (x := 8) (tx := 2) (Y := [(4, 18), (5, 13), (6, 19)]) (J := JX m9 [.int .i64 0]) (G := GX 2 m9) (gx_ext _ _) (R := Rb W.heap.size) 9 (fun _ _ h => rb_ext h) (fun h k => rb_trans h k) (fun qq => match qq with
    | 14 => SP.eq (.agg #[.string ⟨#[]⟩, .string ⟨#[]⟩, .int .i64 0, .int .u64 0, .string ⟨#[]⟩, .slice (some ⟨pL, 0, none⟩) 1 1])
    | 15 => SP.eq (.agg #[.string ⟨#[98]⟩, .string ⟨#[]⟩])
    | 16 => spRow1 [.string ⟨#[98]⟩, .string ⟨#[]⟩] 65
    | 17 => SP.eq (.agg #[.string ⟨#[98]⟩, .string ⟨#[]⟩, .int .i64 1, .int .u64 5, .string ⟨#[]⟩, .slice none 0 0])
    | 18 => spTupX m9 [.int .i64 0]
    | 13 => spTupX m9 [.int .i64 0]
    | 19 => spAggX m9
    | 20 => SP.eq (.int .i64 0)
    | 2 => spBoxE W.heap.size
    | _ => SP.any) (FlowJ.over [(18, spFormX [.int .i64 0]), (13, spFormX [.int .i64 0]), (19, SP.any), (16, SP.any)] (fun qq => match qq with
    | 14 => SP.eq (.agg #[.string ⟨#[]⟩, .string ⟨#[]⟩, .int .i64 0, .int .u64 0, .string ⟨#[]⟩, .slice (some ⟨pL, 0, none⟩) 1 1])
    | 15 => SP.eq (.agg #[.string ⟨#[98]⟩, .string ⟨#[]⟩])
    | 16 => spRow1 [.string ⟨#[98]⟩, .string ⟨#[]⟩] 65
    | 17 => SP.eq (.agg #[.string ⟨#[98]⟩, .string ⟨#[]⟩, .int .i64 1, .int .u64 5, .string ⟨#[]⟩, .slice none 0 0])
    | 18 => spTupX m9 [.int .i64 0]
    | 13 => spTupX m9 [.int .i64 0]
    | 19 => spAggX m9
    | 20 => SP.eq (.int .i64 0)
    | 2 => spBoxE W.heap.size
    | _ => SP.any)) 10 (by kernel_rfl) 105 rfl (by kernel_rfl) (of_decide_eq_true (by kernel_rfl)) (by decide) (by kernel_rfl) ?_ ?_ ?_ ?_ ?_
  · refine ⟨by decide, rfl, by kernel_rfl, ?_, jx_mono _ _⟩
    intro q hq
    simp only [List.mem_cons, List.not_mem_nil, or_false] at hq
    rcases hq with rfl | rfl | rfl
    all_goals exact ⟨by decide, by decide, by decide, rfl, by kernel_rfl⟩
  · refine FlowJ.over_weak (fun q hq => ?_)
    simp only [List.mem_cons, List.not_mem_nil, or_false] at hq
    rcases hq with rfl | rfl | rfl | rfl
    · exact fun u v1 ⟨c, e, _⟩ => ⟨c, e⟩
    · exact fun u v1 ⟨c, e, _⟩ => ⟨c, e⟩
    · exact fun u v1 _ => trivial
    · exact fun u v1 _ => trivial
  · intro q hq u' v1 v2 hR
    by_cases q0 : q = 18
    · subst q0; exact fun ⟨c, e, _⟩ => ⟨c, e⟩
    by_cases q1 : q = 13
    · subst q1; exact fun ⟨c, e, _⟩ => ⟨c, e⟩
    by_cases q2 : q = 19
    · subst q2; exact fun _ => trivial
    by_cases q3 : q = 16
    · subst q3; exact fun _ => trivial
    rw [over_ne q0, over_ne q1, over_ne q2, over_ne q3]
    simp only [FlowJ.over]
    split
    all_goals first | exact fun h => h | exact absurd rfl q0 | exact absurd rfl q1 | exact absurd rfl q2 | exact absurd rfl q3 | exact fun ⟨D, e, h1, c, hb, hc⟩ => ⟨D, e, h1, hR.2.2 D c hb hc⟩
  · refine ⟨?_, ?_, ?_, ?_, ?_, ?_, ?_, ?_, ?_, ?_, trivial⟩
    · intro act W2 hk
      refine FlowJ.does_intro rfl (fun Kq hK => ?_)
      have e1 : act.tmps[1]?.getD undef = .pointer (some ⟨pL + 1, 0, none⟩) := hk.o 1 (by kernel_rfl)
      have g := ((kN.out).ext ((Ext.drew W).trans (hk.early (.inr (by kernel_rfl))))).cell
      clear hk
      go_simp
      exact hK _ _ (Ext.refl _) (xt_no (by decide) (by decide) (by decide)) (fun d hd => by cases hd; first | rfl | (simp [SP.eq]; omega))
    · intro act W2 hk
      refine FlowJ.does_intro rfl (fun Kq hK => ?_)
      clear hk
      go_simp
      exact hK _ _ (Ext.refl _) (xt_no (by decide) (by decide) (by decide)) (fun d hd => by cases hd; first | rfl | (simp [SP.eq]; omega))
    · intro act W2 hk
      refine FlowJ.does_intro rfl (fun Kq hK => ?_)
      have e15 : act.tmps[15]?.getD undef = .agg #[.string ⟨#[98]⟩, .string ⟨#[]⟩] := hk.ve 15 (by kernel_rfl) (by kernel_rfl)
      clear hk
      go_simp
      exact hK _ _ (Ext.alloc _ _) (xt_no (by decide) (by decide) (by decide)) (fun d hd => by cases hd; exact ⟨_, rfl, Blk.new _ _ _⟩)
    · intro act W2 hk
      refine FlowJ.does_intro rfl (fun Kq hK => ?_)
      clear hk
      go_simp
      refine Calls.mono (law_leaf ⟨#[98]⟩ _) ?_
      rintro e W3 ⟨rfl, hx⟩
      exact hK _ _ hx (xt_no (by decide) (by decide) (by decide)) (fun d hd => by cases hd; rfl)
    · intro act W2 hk
      refine FlowJ.does_intro rfl (fun Kq hK => ?_)
      have e14 : act.tmps[14]?.getD undef = .agg #[.string ⟨#[]⟩, .string ⟨#[]⟩, .int .i64 0, .int .u64 0, .string ⟨#[]⟩, .slice (some ⟨pL, 0, none⟩) 1 1] := hk.ve 14 (by kernel_rfl) (by kernel_rfl)
      obtain ⟨D9, e16, hD9⟩ := (hk.ve 16 (by kernel_rfl) (by kernel_rfl) : (spRow1 [.string ⟨#[98]⟩, .string ⟨#[]⟩] 65).p _ _)
      have e17 : act.tmps[17]?.getD undef = .agg #[.string ⟨#[98]⟩, .string ⟨#[]⟩, .int .i64 1, .int .u64 5, .string ⟨#[]⟩, .slice none 0 0] := hk.ve 17 (by kernel_rfl) (by kernel_rfl)
      have hx0 := Hd.mk ((Ext.drew W).trans (hk.early (.inr (by kernel_rfl))))
      replace hD9 := Hd.mk hD9
      clear hk
      go_simp
      refine Calls.mono (hset.out _ _ _ (hrn.out.ext hx0.out) (way1 hD9.out)) ?_
      rintro e W3 ⟨_, rfl, c9, rfl, hr9, hx⟩
      exact hK _ _ hx ⟨fun h => absurd h (by decide), fun h => absurd h (by decide), fun q hq h u hu _ => jx_call hr9 hu⟩ (fun d hd => by cases hd; exact ⟨c9, rfl, hr9.mono fun _ _ _ => trivial⟩)
    · intro act W2 hk
      refine FlowJ.does_intro rfl (fun Kq hK => ?_)
      obtain ⟨c9, e18, hr9⟩ := (hk.ve 18 (by kernel_rfl) (by kernel_rfl) : (spTupX m9 [.int .i64 0]).p _ _)
      clear hk
      go_simp
      refine hK _ _ (Ext.refl _) ⟨fun h => absurd h (by decide), fun h => absurd h (by decide), fun q hq h u hu hj => ?_⟩ (fun d hd => by cases hd; exact ⟨c9, rfl, hr9⟩)
      have h1 := hj (4, 18) (by simp) (by kernel_rfl)
      rw [Array.getD_eq_getD_getElem?] at h1
      rw [e18] at h1
      exact h1
    · intro act W2 hk
      refine FlowJ.does_intro rfl (fun Kq hK => ?_)
      obtain ⟨c9, e13, hr9⟩ := (hk.ve 13 (by kernel_rfl) (by kernel_rfl) : (spTupX m9 [.int .i64 0]).p _ _)
      clear hk
      go_simp
      refine hK _ _ (Ext.refl _) ⟨fun h => absurd h (by decide), fun h => absurd h (by decide), fun q hq h u hu hj => ?_⟩ (fun d hd => by cases hd; exact ⟨c9, rfl, hr9⟩)
      have h1 := hj (5, 13) (by simp) (by kernel_rfl)
      rw [Array.getD_eq_getD_getElem?] at h1
      rw [e13] at h1
      exact jx_take h1
    · intro act W2 hk
      refine FlowJ.does_intro rfl (fun Kq hK => ?_)
      obtain ⟨c9, e13⟩ := (hk.v 13 (by kernel_rfl) : (spFormX [.int .i64 0]).p _ _)
      clear hk
      go_simp
      exact hK _ _ (Ext.refl _) (xt_no (by decide) (by decide) (by decide)) (fun d hd => by cases hd; first | rfl | (simp [SP.eq]; omega))
    · intro act W2 hk
      refine FlowJ.does_intro rfl (fun Kq hK => ?_)
      have hx0 := Hd.mk ((Ext.drew W).trans (hk.early (.inr (by kernel_rfl))))
      clear hk
      go_simp
      refine hK _ _ (Ext.alloc _ _) ⟨fun h => absurd h (by decide), fun h q hq u hu => ?_, fun q hq h => ?_⟩ (fun d hd => by cases hd; exact ⟨_, rfl, hx0.out.size, _, Blk.new _ _ _, rfl⟩)
      · simp only [List.mem_cons, List.not_mem_nil, or_false] at hq
        rcases hq with rfl | rfl | rfl
        · exact jx_alloc (.inl hu)
        · exact jx_alloc (.inl hu)
        · exact jx_alloc (.inr hu)
      · simp only [List.mem_cons, List.not_mem_nil, or_false] at hq
        rcases hq with rfl | rfl | rfl <;> cases h
    · intro act W2 hk
      refine FlowJ.does_intro rfl (fun Kq hK => ?_)
      obtain ⟨c9, e19, hr9⟩ := (hk.ve 19 (by kernel_rfl) (by kernel_rfl) : (spAggX m9).p _ _)
      obtain ⟨D, e2, hDn, cD, hD, hc6⟩ := (hk.ve 2 (by kernel_rfl) (by kernel_rfl) : (spBoxE _).p _ _)
      have hrel := hk.rel rfl (6, 19) (by simp)
      simp only [Array.getD_eq_getD_getElem?] at hrel
      rw [e19, e2] at hrel
      have hrt := Hd.mk (hrel D c9 rfl (.inr rfl))
      clear hrel hk
      obtain ⟨Ku, ku, rfl, _⟩ := hr9.row
      simp only [cT] at hrt e19
      clear hr9
      obtain ⟨x0, x1, x2, x3, x4, x5, rfl⟩ : ∃ x0 x1 x2 x3 x4 x5, cD = [x0, x1, x2, x3, x4, x5] := by match cD, hc6 with | [a, b, c, d, e, f], _ => exact ⟨a, b, c, d, e, f, rfl⟩
      have kD := Hd.mk hD
      have eA := Hd.mk e2
      have gD := kD.out.cell
      have fD := kD.out.free
      clear hD
      go_simp
      have hu := ((((((Upd.setCell W2 ⟨D, 0, none⟩ (.string m9.name)).trans (Upd.setCell _ ⟨D, 1, none⟩ (.string m9.key))).trans (Upd.setCell _ ⟨D, 2, none⟩ (.int .i64 m9.kind))).trans (Upd.setCell _ ⟨D, 3, none⟩ (.int .u64 m9.num))).trans (Upd.setCell _ ⟨D, 4, none⟩ (.string m9.text))).trans (Upd.setCell _ ⟨D, 5, none⟩ (.slice Ku m9.kids.length ku)))
      have kDn := ((((((kD.out.setCell 0 (.string m9.name)).setCell 1 (.string m9.key)).setCell 2 (.int .i64 m9.kind)).setCell 3 (.int .u64 m9.num)).setCell 4 (.string m9.text)).setCell 5 (.slice Ku m9.kids.length ku))
      refine hK undef _ (rb_upd hDn hu ⟨_, kDn, rfl⟩) ⟨fun _ D2 hD2 => ?_, fun h => absurd h (by decide), fun q hq h => ?_⟩ (fun d hd => by cases hd)
      · have e9b := eA.out
        rw [Array.getD_eq_getD_getElem?] at hD2
        rw [e9b] at hD2
        cases hD2
        exact ⟨_, kDn, hrt.out.upd hu (fun h => h rfl)⟩
      · simp only [List.mem_cons, List.not_mem_nil, or_false] at hq
        rcases hq with rfl | rfl | rfl <;> cases h
  · intro act V2 he
    have hxV2 := Hd.mk (rb_below (rb_trans (rb_ext (Ext.drew W)) he.ext))
    obtain ⟨aP, hG1, hG2⟩ := he.post
    have hG9 := hG2 2 (by kernel_rfl)
    obtain ⟨us, hA, hF⟩ := he.out [14, 15, 16, 17, 18, 13, 19, 20, 2] (by kernel_rfl)
    simp only [Flow.fillL, List.contains_cons, List.contains_nil, Nat.reduceBEq, Bool.or_false, Bool.false_or, Bool.or_true, Bool.true_or, ↓reduceIte, Nat.reduceAdd, Bool.false_eq_true] at hA
    subst hA
    have f20 : us 20 = .int .i64 0 := hF 20 (by simp)
    have f2 : (spBoxE W.heap.size).p (us 2) V2 := hF 2 (by simp)
    clear hF he
    rw [f20]
    clear f20
    have hG9b : aP.tmps.getD 2 undef = us 2 := hG9
    obtain ⟨D, e9, hDn, _⟩ := f2
    rw [e9] at hG9b
    obtain ⟨cD, kD0, hrt⟩ := hG1 D hG9b
    rw [e9]
    clear e9 hG1 hG2 hG9 hG9b
    have hDn := Hd.mk hDn
    have kD := Hd.mk kD0
    obtain ⟨Ku, ku, rfl, _⟩ := hrt.row
    have hrm := Hd.mk hrt
    simp only [cT] at hrm kD
    clear kD0 hrt
    replace kx := Hd.mk (kx.out.trans hxV2.out)
    replace kN := Hd.mk (kN.out.ext hxV2.out)
    replace hrn := Hd.mk (hrn.out.ext hxV2.out)
    replace hrm := Hd.mk (hrm.out.mono (S' := fun _ => True) fun _ _ _ => trivial)
    have kM := kD
    clear kD hDn hxV2 hset
    generalize D = pM at *
    generalize Ku = Km at *
    generalize ku = km at *
    generalize V2 = W3 at *
    refine (show wpList _ _ _ (⟨some 3, .assign (.tmp 20), _, _, _, none⟩ :: _) _ _ from ?_)
    have gM := kM.out.cell
    have gM1 := (kM.out.alloc (.cells #[.string ⟨#[97]⟩, .string ⟨#[]⟩] 65)).cell
    go_wp2_with fail
    have hxw := Ext.alloc W3 (.cells #[.string ⟨#[97]⟩, .string ⟨#[]⟩] 65)
    have kW := Blk.new W3 #[.string ⟨#[97]⟩, .string ⟨#[]⟩] 65
    replace kx := Hd.mk (kx.out.trans hxw)
    replace kN := Hd.mk (kN.out.ext hxw)
    replace hrn := Hd.mk (hrn.out.ext hxw)
    replace kM := Hd.mk (kM.out.ext hxw)
    replace hrm := Hd.mk (hrm.out.ext hxw)
    clear hxw gM gM1
    generalize W3.heap.size = pW at *
    generalize W3.alloc _ = W4 at *
    have hc := tree_cut m9 [stepT lfA] (fun _ => True) (fun _ => True) W4 _ (some ⟨pW, 0, none⟩) 1 hrm.out (way1 kW) (by rw [size9]; omega)
    rw [cut9] at hc
    refine Calls.mono hc ?_
    rintro e w5 ⟨_, rfl, c5, rfl, ho5, hx⟩
    have hr5 := (ho5.rt.mono (S' := fun _ => True) fun _ _ _ => trivial)
    clear ho5 hc kW
    obtain ⟨Ko, ko, rfl, _⟩ := hr5.row
    simp only [cT] at hr5 ⊢
    replace kx := Hd.mk (kx.out.trans hx)
    replace kN := Hd.mk (kN.out.ext hx)
    replace hrn := Hd.mk (hrn.out.ext hx)
    replace kM := Hd.mk (kM.out.ext hx)
    replace hrm := Hd.mk (hrm.out.ext hx)
    clear hx
    go_wp2_with fail
    have hxw := (Ext.alloc w5 (.cells #[.string o9.name, .string o9.key, .int .i64 o9.kind, .int .u64 o9.num, .string o9.text, .slice Ko o9.kids.length ko] 54)).trans (Ext.alloc _ (.cells #[.string ⟨#[98]⟩, .string ⟨#[]⟩] 65))
    have kO := Hd.mk ((Blk.new w5 #[.string o9.name, .string o9.key, .int .i64 o9.kind, .int .u64 o9.num, .string o9.text, .slice Ko o9.kids.length ko] 54).alloc (.cells #[.string ⟨#[98]⟩, .string ⟨#[]⟩] 65))
    have kW := Blk.new2 w5 (.cells #[.string o9.name, .string o9.key, .int .i64 o9.kind, .int .u64 o9.num, .string o9.text, .slice Ko o9.kids.length ko] 54) #[.string ⟨#[98]⟩, .string ⟨#[]⟩] 65
    have hro := Hd.mk (hr5.ext hxw)
    replace kx := Hd.mk (kx.out.trans hxw)
    replace kN := Hd.mk (kN.out.ext hxw)
    replace hrn := Hd.mk (hrn.out.ext hxw)
    replace kM := Hd.mk (kM.out.ext hxw)
    replace hrm := Hd.mk (hrm.out.ext hxw)
    clear hxw hr5
    generalize w5.heap.size = pO at *
    generalize (w5.alloc _).alloc _ = W6 at *
    have hc := tree_get o9 [stepT lfB] (fun _ => True) (fun _ => True) W6 _ (some ⟨pO + 1, 0, none⟩) 1 hro.out (way1 kW)
    rw [get9b] at hc
    refine Calls.mono hc ?_
    rintro e w6 ⟨_, rfl, hx, hres⟩
    rcases hres with ⟨h9, _⟩ | ⟨u9, c6, hu9, rfl, ho6⟩
    · cases h9
    obtain rfl : lfB = u9 := Option.some.inj hu9
    obtain ⟨Kb, kb, _, _, rfl, _⟩ := ho6.row
    simp only [cT]
    clear hu9 ho6 hc kW
    replace kx := Hd.mk (kx.out.trans hx)
    replace kN := Hd.mk (kN.out.ext hx)
    replace hrn := Hd.mk (hrn.out.ext hx)
    replace kM := Hd.mk (kM.out.ext hx)
    replace hrm := Hd.mk (hrm.out.ext hx)
    replace kO := Hd.mk (kO.out.ext hx)
    replace hro := Hd.mk (hro.out.ext hx)
    clear hx
    have gO := (kO.out.alloc (.cells #[.string lfB.name, .string lfB.key, .int .i64 lfB.kind, .int .u64 lfB.num, .string lfB.text, .slice Kb lfB.kids.length kb] 54)).cell
    go_wp2_with fail
    have hxw := (Ext.alloc w6 (.cells #[.string lfB.name, .string lfB.key, .int .i64 lfB.kind, .int .u64 lfB.num, .string lfB.text, .slice Kb lfB.kids.length kb] 54)).trans (Ext.alloc _ (.cells #[.string ⟨#[97]⟩, .string ⟨#[]⟩] 65))
    have kB := Hd.mk ((Blk.new w6 #[.string lfB.name, .string lfB.key, .int .i64 lfB.kind, .int .u64 lfB.num, .string lfB.text, .slice Kb lfB.kids.length kb] 54).alloc (.cells #[.string ⟨#[97]⟩, .string ⟨#[]⟩] 65))
    have kW := Blk.new2 w6 (.cells #[.string lfB.name, .string lfB.key, .int .i64 lfB.kind, .int .u64 lfB.num, .string lfB.text, .slice Kb lfB.kids.length kb] 54) #[.string ⟨#[97]⟩, .string ⟨#[]⟩] 65
    replace kx := Hd.mk (kx.out.trans hxw)
    replace kN := Hd.mk (kN.out.ext hxw)
    replace hrn := Hd.mk (hrn.out.ext hxw)
    replace kM := Hd.mk (kM.out.ext hxw)
    replace hrm := Hd.mk (hrm.out.ext hxw)
    replace kO := Hd.mk (kO.out.ext hxw)
    replace hro := Hd.mk (hro.out.ext hxw)
    clear hxw gO
    generalize w6.heap.size = pB at *
    generalize (w6.alloc _).alloc _ = W7 at *
    have hc := tree_get o9 [stepT lfA] (fun _ => True) (fun _ => True) W7 _ (some ⟨pB + 1, 0, none⟩) 1 hro.out (way1 kW)
    rw [get9a] at hc
    refine Calls.mono hc ?_
    rintro e w7 ⟨v9, rfl, hx, hres⟩
    have hv9 : v9 = .tuple #[.agg #[.string ⟨#[]⟩, .string ⟨#[]⟩, .int .i64 0, .int .u64 0, .string ⟨#[]⟩, .slice none 0 0], .bool false] := by
      rcases hres with ⟨_, h9⟩ | ⟨u9, c6, hu9, _⟩
      · exact h9
      · cases hu9
    subst hv9
    clear hres
    clear hc kW
    replace kx := Hd.mk (kx.out.trans hx)
    replace kN := Hd.mk (kN.out.ext hx)
    replace hrn := Hd.mk (hrn.out.ext hx)
    replace kM := Hd.mk (kM.out.ext hx)
    replace hrm := Hd.mk (hrm.out.ext hx)
    replace kO := Hd.mk (kO.out.ext hx)
    replace kB := Hd.mk (kB.out.ext hx)
    clear hx hro
    have hxw := Hd.mk (Ext.alloc w7 (.cells #[.string ⟨#[]⟩, .string ⟨#[]⟩, .int .i64 0, .int .u64 0, .string ⟨#[]⟩, .slice none 0 0] 54))
    replace kx := Hd.mk (kx.out.trans hxw.out)
    replace kN := Hd.mk (kN.out.ext hxw.out)
    replace hrn := Hd.mk (hrn.out.ext hxw.out)
    replace kM := Hd.mk (kM.out.ext hxw.out)
    replace hrm := Hd.mk (hrm.out.ext hxw.out)
    replace kO := Hd.mk (kO.out.ext hxw.out)
    replace kB := Hd.mk (kB.out.ext hxw.out)
    have q1 : o9.kids.length = 1 := rfl
    have q5 : lfB.num = 5 := rfl
    have gO := kO.out.cell
    have gB := kB.out.cell
    have gM := kM.out.cell
    rw [q1] at gO
    rw [q5] at gB
    clear q1 q5 kO kB
    simp only [show o9.kids.length = 1 from rfl]
    go_wp2_with fail
    refine Calls.mono (tree_size 3 m9 (fun _ => True) _ _ (by rw [size9]; omega) (by rw [size9]; omega) hrm.out) ?_
    rintro e x1 ⟨rfl, hx⟩
    replace kx := Hd.mk (kx.out.trans hx)
    replace kN := Hd.mk (kN.out.ext hx)
    replace hrn := Hd.mk (hrn.out.ext hx)
    replace kM := Hd.mk (kM.out.ext hx)
    replace hrm := Hd.mk (hrm.out.ext hx)
    clear hx
    clear gO gB gM
    have hq3 : (m9.size : Int) = 3 := rfl
    have gM := kM.out.cell
    have gN := kN.out.cell
    go_wp2_with fail
    clear hq3
    have hcr := tree_right m9.deep m9 (fun _ => True) _ _ (Nat.le_refl _) hrm.out
    rw [m9_right] at hcr
    refine Calls.mono (hcr) ?_
    rintro e x2 ⟨rfl, hx⟩
    replace kx := Hd.mk (kx.out.trans hx)
    replace kN := Hd.mk (kN.out.ext hx)
    replace hrn := Hd.mk (hrn.out.ext hx)
    replace kM := Hd.mk (kM.out.ext hx)
    replace hrm := Hd.mk (hrm.out.ext hx)
    clear hx
    clear hcr gM gN
    have gM := kM.out.cell
    have gN := kN.out.cell
    go_wp2_with fail
    refine Calls.mono (law_leaf ⟨#[97]⟩ _) ?_
    rintro e x3 ⟨rfl, hx⟩
    replace kx := Hd.mk (kx.out.trans hx)
    replace kN := Hd.mk (kN.out.ext hx)
    replace hrn := Hd.mk (hrn.out.ext hx)
    replace kM := Hd.mk (kM.out.ext hx)
    replace hrm := Hd.mk (hrm.out.ext hx)
    clear hx
    clear gM gN
    have gM := kM.out.cell
    have gN := kN.out.cell
    go_wp2_with fail
    refine Calls.mono (law_leaf ⟨#[98]⟩ _) ?_
    rintro e x4 ⟨rfl, hx⟩
    replace kx := Hd.mk (kx.out.trans hx)
    replace kN := Hd.mk (kN.out.ext hx)
    replace hrn := Hd.mk (hrn.out.ext hx)
    replace kM := Hd.mk (kM.out.ext hx)
    replace hrm := Hd.mk (hrm.out.ext hx)
    clear hx
    clear gM gN
    have gM := kM.out.cell
    have gN := kN.out.cell
    go_wp2_with fail
    have hcl := Hd.mk (fun W => tree_less lfA lfB none none 0 0 0 0 W)
    rw [a_lt_b] at hcl
    simp only [cT, lfA, lfB, T.name, T.key, T.kind, T.num, T.text] at hcl
    refine Calls.mono (hcl.out _) ?_
    rintro e x5 ⟨rfl, hx⟩
    replace kx := Hd.mk (kx.out.trans hx)
    replace kN := Hd.mk (kN.out.ext hx)
    replace hrn := Hd.mk (hrn.out.ext hx)
    replace kM := Hd.mk (kM.out.ext hx)
    replace hrm := Hd.mk (hrm.out.ext hx)
    clear hx
    clear hcl gM gN
    have gM := kM.out.cell
    have gN := kN.out.cell
    go_wp2_with fail
    refine Calls.mono (law_leaf ⟨#[97]⟩ _) ?_
    rintro e x6 ⟨rfl, hx⟩
    replace kx := Hd.mk (kx.out.trans hx)
    replace kN := Hd.mk (kN.out.ext hx)
    replace hrn := Hd.mk (hrn.out.ext hx)
    replace kM := Hd.mk (kM.out.ext hx)
    replace hrm := Hd.mk (hrm.out.ext hx)
    clear hx
    clear gM gN
    have gM := kM.out.cell
    have gN := kN.out.cell
    go_wp2_with fail
    refine Calls.mono (law_leaf ⟨#[97]⟩ _) ?_
    rintro e x7 ⟨rfl, hx⟩
    replace kx := Hd.mk (kx.out.trans hx)
    replace kN := Hd.mk (kN.out.ext hx)
    replace hrn := Hd.mk (hrn.out.ext hx)
    replace kM := Hd.mk (kM.out.ext hx)
    replace hrm := Hd.mk (hrm.out.ext hx)
    clear hx
    clear gM gN
    have gM := kM.out.cell
    have gN := kN.out.cell
    go_wp2_with fail
    have hcl := Hd.mk (fun W => tree_less lfA lfA none none 0 0 0 0 W)
    rw [a_lt_a] at hcl
    simp only [cT, lfA, T.name, T.key, T.kind, T.num, T.text] at hcl
    refine Calls.mono (hcl.out _) ?_
    rintro e x8 ⟨rfl, hx⟩
    replace kx := Hd.mk (kx.out.trans hx)
    replace kN := Hd.mk (kN.out.ext hx)
    replace hrn := Hd.mk (hrn.out.ext hx)
    replace kM := Hd.mk (kM.out.ext hx)
    replace hrm := Hd.mk (hrm.out.ext hx)
    clear hx
    clear hcl gM gN
    have gM := kM.out.cell
    have gN := kN.out.cell
    go_wp2_with fail
    have hcs := tree_same n9.deep n9 n9 (fun _ => True) _ _ _ (Nat.le_refl _) hrn.out hrn.out
    rw [same9.1] at hcs
    refine Calls.mono (hcs) ?_
    rintro e x9 ⟨rfl, hx⟩
    replace kx := Hd.mk (kx.out.trans hx)
    replace kN := Hd.mk (kN.out.ext hx)
    replace hrn := Hd.mk (hrn.out.ext hx)
    replace kM := Hd.mk (kM.out.ext hx)
    replace hrm := Hd.mk (hrm.out.ext hx)
    clear hx
    clear hcs gM gN
    have gM := kM.out.cell
    have gN := kN.out.cell
    go_wp2_with fail
    have hcs := tree_same n9.deep n9 m9 (fun _ => True) _ _ _ (Nat.le_refl _) hrn.out hrm.out
    rw [same9.2] at hcs
    refine Calls.mono (hcs) ?_
    rintro e x10 ⟨rfl, hx⟩
    replace kx := Hd.mk (kx.out.trans hx)
    replace kN := Hd.mk (kN.out.ext hx)
    replace hrn := Hd.mk (hrn.out.ext hx)
    replace kM := Hd.mk (kM.out.ext hx)
    replace hrm := Hd.mk (hrm.out.ext hx)
    clear hx
    clear hcs gM gN
    have gM := kM.out.cell
    have gN := kN.out.cell
    go_wp2_with fail
    refine Calls.mono (tree_sorted 20 (by omega) (fun h => absurd h (by omega)) m9.deep m9 (fun _ => True) _ _ (Nat.le_refl _) (by rw [size9]; omega) hrm.out) ?_
    rintro e x11 ⟨_, rfl, c11, rfl, hr11, hx⟩
    obtain ⟨Kz, kz, rfl, _⟩ := hr11.row
    simp only [cT, sort9]
    replace kx := Hd.mk (kx.out.trans hx)
    clear hx hr11 gM gN
    have hfk := run_kids
    go_wp2_with fail
    go_ret
    exact ⟨rfl, kx.out⟩
end Go.Proofs.Ytgkgedjmnbjalaa

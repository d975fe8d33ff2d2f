/- Texts that the law needs, joined.
   Conditions: none. -/
import Derived.Test.YtgkgedjmnbjalaaToJ
import Derived.Test.YtgkgedjmnbjalaaToI
import Derived.Test.YtgkgedjmnbjalaaToA
set_option linter.unusedSimpArgs false
set_option linter.unusedVariables false
namespace Go.Proofs.Ytgkgedjmnbjalaa
open Go.RowKit Go.Sort
def SymAt (N : Nat) : Prop := ∀ (pre s1 s2 post : List It) (sp : List Value) (g cap a m b n : Nat) (w : World), Blk w g (rowI (pre ++ (s1 ++ s2) ++ post) ++ sp) 54 → a = pre.length → m = a + s1.length → b = m + s2.length → n = (pre ++ (s1 ++ s2) ++ post).length → n ≤ 1048576 → s1.length + s2.length < N → 0 < s1.length → 0 < s2.length → SrtLe s1 → SrtLe s2 →
  Calls Try.prog 157 #[.slice (some ⟨g, 0, none⟩) n cap, .int .i64 a, .int .i64 m, .int .i64 b, .func (.func 116) #[] #[]] w fun e w' => e = .returned (.tuple #[]) ∧ (∃ s, SrtLe s ∧ SameF (s1 ++ s2) s ∧ s.length = (s1 ++ s2).length ∧ Blk w' g (rowI (pre ++ s ++ post) ++ sp) 54) ∧ w.grownBy w' (some g)
set_option maxRecDepth 100000 in
set_option maxHeartbeats 8000000 in
theorem sym_big_T (N : Nat) (ih : SymAt N) (pre s1 s2 post : List It) (sp : List Value) (g cap a m b n mid : Nat) (w : World) (hb : Blk w g (rowI (pre ++ (s1 ++ s2) ++ post) ++ sp) 54) (ha : a = pre.length) (hmm : m = a + s1.length) (hbb : b = m + s2.length) (hn : n = (pre ++ (s1 ++ s2) ++ post).length) (hm : n ≤ 1048576) (hN : s1.length + s2.length ≤ N) (h1 : 2 ≤ s1.length) (h2 : 2 ≤ s2.length) (hs1 : SrtLe s1) (hs2 : SrtLe s2) (hmid : mid = (a + b) / 2) (hgt : mid < m) :
    Calls Try.prog 157 #[.slice (some ⟨g, 0, none⟩) n cap, .int .i64 a, .int .i64 m, .int .i64 b, .func (.func 116) #[] #[]] w fun e w' => e = .returned (.tuple #[]) ∧ (∃ s, SrtLe s ∧ SameF (s1 ++ s2) s ∧ s.length = (s1 ++ s2).length ∧ Blk w' g (rowI (pre ++ s ++ post) ++ sp) 54) ∧ w.grownBy w' (some g) := by
  have hlen : n = b + post.length := by rw [hn]; simp only [List.length_append]; omega
  have i1 : SrtIn (pre ++ (s1 ++ s2) ++ post) a m := by
    have h := srt_in (pre := pre) (s := s1) (post := s2 ++ post) hs1
    rw [← ha, ← hmm] at h
    simpa using h
  have i2 : SrtIn (pre ++ (s1 ++ s2) ++ post) m b := by
    have h := srt_in (pre := pre ++ s1) (s := s2) (post := post) hs2
    rw [List.length_append, ← ha, ← hmm, ← hbb] at h
    simpa using h
  obtain ⟨l, hl⟩ : ∃ l, l = pre ++ (s1 ++ s2) ++ post := ⟨_, rfl⟩
  rw [← hl] at hb i1 i2 hn
  obtain ⟨d1, hd1⟩ : ∃ d, d = m - a := ⟨_, rfl⟩
  obtain ⟨d2, hd2⟩ : ∃ d, d = b - m := ⟨_, rfl⟩
  have hw0 : IntKind.i64.wrap ((m : Int) - (a : Int)) = (d1 : Int) := by rw [IntKind.wrap_i64]; omega
  have hw00 : ((d1 : Int) == 1) = false := by rw [beq_eq_false_iff_ne]; omega
  have hw01 : IntKind.i64.wrap ((b : Int) - (m : Int)) = (d2 : Int) := by rw [IntKind.wrap_i64]; omega
  have hw02 : ((d2 : Int) == 1) = false := by rw [beq_eq_false_iff_ne]; omega
  have e1 : IntKind.i64.wrap ((a : Int) + (b : Int)) = ((a + b : Nat) : Int) := by rw [IntKind.wrap_i64]; omega
  have e2 : ((a : Int) + (b : Int)) / 2 = (mid : Int) := by omega
  obtain ⟨n0, hn0⟩ : ∃ x, x = mid + m := ⟨_, rfl⟩
  have hwn : IntKind.i64.wrap ((mid : Int) + (m : Int)) = (n0 : Int) := by rw [IntKind.wrap_i64]; omega
  obtain ⟨p, hp⟩ : ∃ p, p + 1 = n0 := ⟨n0 - 1, by omega⟩
  have hwp : IntKind.i64.wrap ((n0 : Int) - 1) = (p : Int) := by rw [IntKind.wrap_i64]; omega
  obtain ⟨lo, hlo⟩ : ∃ lo, lo + b = n0 := ⟨n0 - b, by omega⟩
  have hwl : IntKind.i64.wrap ((n0 : Int) - (b : Int)) = (lo : Int) := by rw [IntKind.wrap_i64]; omega
  have hgti : (mid : Int) < (m : Int) := by omega
  have hal : a ≤ lo := by omega
  have hlh : lo ≤ mid := by omega
  have hhm : mid ≤ m := by omega
  have hhd : mid ≤ mid := by omega
  have hpl : p < lo + b := by omega
  have hpm : m + mid ≤ p + 1 := by omega
  have hbn : b ≤ n := by omega
  have hma : a + 2 ≤ m := by omega
  have hmb : m + 2 ≤ b := by omega
  have hNb : b ≤ a + N := by omega
  have hmda : a < mid := by omega
  have hmdb : mid < b := by omega
  have hlo2 := Hd.mk (show lo = a ∨ lo + b = mid + m by omega)
  replace ha := Hd.mk ha
  replace hmm := Hd.mk hmm
  replace hbb := Hd.mk hbb
  replace hn := Hd.mk hn
  replace hb := Hd.mk hb
  replace hl := Hd.mk hl
  replace hlen := Hd.mk hlen
  replace i1 := Hd.mk i1
  replace i2 := Hd.mk i2
  replace hs1 := Hd.mk hs1
  replace hs2 := Hd.mk hs2
  replace hd1 := Hd.mk hd1
  replace hd2 := Hd.mk hd2
  replace hn0 := Hd.mk hn0
  replace hp := Hd.mk hp
  replace hmid := Hd.mk hmid
  replace ih := Hd.mk ih
  replace hN := Hd.mk hN
  replace h1 := Hd.mk h1
  replace h2 := Hd.mk h2
  replace hlo := Hd.mk hlo
  clear hgt
  go_enter Try.func157, Try.ntmps157
  go_wp2_with fail
  clear hw0 hw00 hw01 hw02 e1 e2 hwn hwp hgti hwl
  go_loopg [20, 21] (n + 1) (fun qq si sj wr => ∃ i j : Nat, lo ≤ i ∧ i ≤ j ∧ j ≤ mid ∧ Hd (j - i < qq) ∧ si = .int .i64 i ∧ sj = .int .i64 j ∧ Hd (∀ c q x y, lo ≤ c → c < i → q + c = p → l[c]? = some x → l[q]? = some y → ltI y x = false) ∧ Hd (∀ c q x y, j ≤ c → c < mid → q + c = p → l[c]? = some x → l[q]? = some y → ltI y x = true) ∧ Hd (Blk wr g (rowI l ++ sp) 54) ∧ Hd (w.grownBy wr (some g)))
  case atStart => exact ⟨lo, mid, Nat.le_refl _, hlh, Nat.le_refl _, ⟨by omega⟩, rfl, rfl, ⟨fun c q x y h1 h2 => by omega⟩, ⟨fun c q x y h1 h2 => by omega⟩, hb, ⟨grown_ext (Ext.refl _)⟩⟩
  case round =>
  clear hb
  obtain ⟨i, j, hli, hij, hjh, hq, rfl, rfl, hF, hT, hrow, hgr⟩ := hrel
  generalize wr = V0 at *
  by_cases hlt : i < j
  · obtain ⟨c, hc⟩ : ∃ c, c = (i + j) / 2 := ⟨_, rfl⟩
    have hc1 : i ≤ c := by omega
    have hc2 : c < j := by omega
    obtain ⟨r, hr⟩ : ∃ r, r + c = p := ⟨p - c, by omega⟩
    have hr1 : m ≤ r := by omega
    have hr2 : r < b := by omega
    have hcn : c < n := by omega
    have hrn : r < n := by omega
    have hcl : c < l.length := by have := hn.out; omega
    have hrl : r < l.length := by have := hn.out; omega
    have hx := List.getElem?_eq_getElem hcl
    have hy := List.getElem?_eq_getElem hrl
    generalize l[c] = x at hx
    generalize l[r] = y at hy
    clear hcl hrl
    have e1 : IntKind.i64.wrap ((i : Int) + (j : Int)) = ((i + j : Nat) : Int) := by rw [IntKind.wrap_i64]; omega
    have e2 : ((i : Int) + (j : Int)) / 2 = (c : Int) := by omega
    have hcA := Hd.mk (rowI_cell hrow.out hy)
    have hcB := Hd.mk (rowI_cell hrow.out hx)
    have hcmp := Hd.mk (fun w => tree_compare y.1 x.1 y.2.1 x.2.1 y.1.kids.length y.2.2 x.1.kids.length x.2.2 w)
    simp only [cT, cI] at hcmp hcA hcB
    have hlt0 : (i : Int) < (j : Int) := by omega
    have hcni : (c : Int) < (n : Int) := by omega
    have hrni : (r : Int) < (n : Int) := by omega
    replace hx := Hd.mk hx
    replace hy := Hd.mk hy
    replace hc := Hd.mk hc
    replace hr := Hd.mk hr
    cases hle : ltI y x with
    | true =>
      have hneg := Hd.mk (cmp_lt hle)
      go_wp2_with fail
      refine Flow.wp_region_flow_l (fun qq => match qq with
        | 158 => SP.eq (.func (.func 116) #[] #[])
        | 159 => SP.eq (.slice (some ⟨g, 0, none⟩) n cap)
        | 160 => SP.eq (.int .i64 (p : Nat))
        | 161 => SP.eq (.int .i64 (c : Nat))
        | 162 => SP.eq (.int .i64 (r : Nat))
        | 163 => SP.eq (.pointer (some ⟨g, r * 6, none⟩))
        | 164 => SP.eq (.agg #[.string y.1.name, .string y.1.key, .int .i64 y.1.kind, .int .u64 y.1.num, .string y.1.text, .slice y.2.1 y.1.kids.length y.2.2])
        | 165 => SP.eq (.slice (some ⟨g, 0, none⟩) n cap)
        | 166 => SP.eq (.int .i64 (c : Nat))
        | 167 => SP.eq (.pointer (some ⟨g, c * 6, none⟩))
        | 168 => SP.eq (.agg #[.string x.1.name, .string x.1.key, .int .i64 x.1.kind, .int .u64 x.1.num, .string x.1.text, .slice x.2.1 x.1.kids.length x.2.2])
        | 169 => SP.eq (.int .i64 (cmpT y.1 x.1))
        | 170 => SP.eq (.bool true)
        | 171 => SP.eq (.bool false)
        | _ => SP.any) 14 (by kernel_rfl) 220 rfl (by kernel_rfl) ?_ ?_
      · skip
        refine ⟨?_, ?_, ?_, ?_, ?_, ?_, ?_, ?_, ?_, ?_, ?_, ?_, ?_, ?_, trivial⟩
        · intro act W2 hk
          refine Flow.does_intro rfl (fun Kq hK => ?_)
          have e4 : act.tmps[4]?.getD undef = .func (.func 116) #[] #[] := hk.o 4 (by kernel_rfl)
          clear hk
          go_simp
          exact hK _ _ (Ext.refl _) (fun d hd => by cases hd; rfl)
        · intro act W2 hk
          refine Flow.does_intro rfl (fun Kq hK => ?_)
          have e0 : act.tmps[0]?.getD undef = .slice (some ⟨g, 0, none⟩) n cap := hk.o 0 (by kernel_rfl)
          clear hk
          go_simp
          exact hK _ _ (Ext.refl _) (fun d hd => by cases hd; rfl)
        · intro act W2 hk
          refine Flow.does_intro rfl (fun Kq hK => ?_)
          have e22 : act.tmps[22]?.getD undef = .int .i64 (p : Nat) := hk.o 22 (by kernel_rfl)
          clear hk
          go_simp
          exact hK _ _ (Ext.refl _) (fun d hd => by cases hd; rfl)
        · intro act W2 hk
          refine Flow.does_intro rfl (fun Kq hK => ?_)
          have e23 : act.tmps[23]?.getD undef = .int .i64 (c : Nat) := hk.o 23 (by kernel_rfl)
          clear hk
          go_simp
          exact hK _ _ (Ext.refl _) (fun d hd => by cases hd; rfl)
        · intro act W2 hk
          refine Flow.does_intro rfl (fun Kq hK => ?_)
          have e160 : act.tmps[160]?.getD undef = .int .i64 (p : Nat) := hk.v 160 (by kernel_rfl)
          have e161 : act.tmps[161]?.getD undef = .int .i64 (c : Nat) := hk.v 161 (by kernel_rfl)
          clear hk
          go_simp
          exact hK _ _ (Ext.refl _) (fun d hd => by cases hd; have h1 := hr.out; have h2 := hrn; simp [SP.eq]; first | omega | (unfold wrap64; omega) | (rw [IntKind.wrap_i64]; omega))
        · intro act W2 hk
          refine Flow.does_intro rfl (fun Kq hK => ?_)
          have e159 : act.tmps[159]?.getD undef = .slice (some ⟨g, 0, none⟩) n cap := hk.v 159 (by kernel_rfl)
          have e162 : act.tmps[162]?.getD undef = .int .i64 (r : Nat) := hk.v 162 (by kernel_rfl)
          clear hk
          go_simp
          exact hK _ _ (Ext.refl _) (fun d hd => by cases hd; rfl)
        · intro act W2 hk
          refine Flow.does_intro rfl (fun Kq hK => ?_)
          have e163 : act.tmps[163]?.getD undef = .pointer (some ⟨g, r * 6, none⟩) := hk.v 163 (by kernel_rfl)
          have g0 := Ext.cell ((Ext.drew V0).trans hk.ext) ((hcA.out) 0 _ rfl)
          rw [Nat.add_zero] at g0
          have g1 := Ext.cell ((Ext.drew V0).trans hk.ext) ((hcA.out) 1 _ rfl)
          have g2 := Ext.cell ((Ext.drew V0).trans hk.ext) ((hcA.out) 2 _ rfl)
          have g3 := Ext.cell ((Ext.drew V0).trans hk.ext) ((hcA.out) 3 _ rfl)
          have g4 := Ext.cell ((Ext.drew V0).trans hk.ext) ((hcA.out) 4 _ rfl)
          have g5 := Ext.cell ((Ext.drew V0).trans hk.ext) ((hcA.out) 5 _ rfl)
          clear hk
          go_simp
          exact hK _ _ (Ext.refl _) (fun d hd => by cases hd; rfl)
        · intro act W2 hk
          refine Flow.does_intro rfl (fun Kq hK => ?_)
          have e0 : act.tmps[0]?.getD undef = .slice (some ⟨g, 0, none⟩) n cap := hk.o 0 (by kernel_rfl)
          clear hk
          go_simp
          exact hK _ _ (Ext.refl _) (fun d hd => by cases hd; rfl)
        · intro act W2 hk
          refine Flow.does_intro rfl (fun Kq hK => ?_)
          have e23 : act.tmps[23]?.getD undef = .int .i64 (c : Nat) := hk.o 23 (by kernel_rfl)
          clear hk
          go_simp
          exact hK _ _ (Ext.refl _) (fun d hd => by cases hd; rfl)
        · intro act W2 hk
          refine Flow.does_intro rfl (fun Kq hK => ?_)
          have e165 : act.tmps[165]?.getD undef = .slice (some ⟨g, 0, none⟩) n cap := hk.v 165 (by kernel_rfl)
          have e166 : act.tmps[166]?.getD undef = .int .i64 (c : Nat) := hk.v 166 (by kernel_rfl)
          clear hk
          go_simp
          exact hK _ _ (Ext.refl _) (fun d hd => by cases hd; rfl)
        · intro act W2 hk
          refine Flow.does_intro rfl (fun Kq hK => ?_)
          have e167 : act.tmps[167]?.getD undef = .pointer (some ⟨g, c * 6, none⟩) := hk.v 167 (by kernel_rfl)
          have g0 := Ext.cell ((Ext.drew V0).trans hk.ext) ((hcB.out) 0 _ rfl)
          rw [Nat.add_zero] at g0
          have g1 := Ext.cell ((Ext.drew V0).trans hk.ext) ((hcB.out) 1 _ rfl)
          have g2 := Ext.cell ((Ext.drew V0).trans hk.ext) ((hcB.out) 2 _ rfl)
          have g3 := Ext.cell ((Ext.drew V0).trans hk.ext) ((hcB.out) 3 _ rfl)
          have g4 := Ext.cell ((Ext.drew V0).trans hk.ext) ((hcB.out) 4 _ rfl)
          have g5 := Ext.cell ((Ext.drew V0).trans hk.ext) ((hcB.out) 5 _ rfl)
          clear hk
          go_simp
          exact hK _ _ (Ext.refl _) (fun d hd => by cases hd; rfl)
        · intro act W2 hk
          refine Flow.does_intro rfl (fun Kq hK => ?_)
          have e158 : act.tmps[158]?.getD undef = .func (.func 116) #[] #[] := hk.v 158 (by kernel_rfl)
          have e164 : act.tmps[164]?.getD undef = .agg #[.string y.1.name, .string y.1.key, .int .i64 y.1.kind, .int .u64 y.1.num, .string y.1.text, .slice y.2.1 y.1.kids.length y.2.2] := hk.v 164 (by kernel_rfl)
          have e168 : act.tmps[168]?.getD undef = .agg #[.string x.1.name, .string x.1.key, .int .i64 x.1.kind, .int .u64 x.1.num, .string x.1.text, .slice x.2.1 x.1.kids.length x.2.2] := hk.v 168 (by kernel_rfl)
          clear hk
          go_simp
          refine Calls.mono (hcmp.out _) ?_
          rintro e W3 ⟨rfl, hx⟩
          exact hK _ _ hx (fun d hd => by cases hd; rfl)
        · intro act W2 hk
          refine Flow.does_intro rfl (fun Kq hK => ?_)
          have e169 : act.tmps[169]?.getD undef = .int .i64 (cmpT y.1 x.1) := hk.v 169 (by kernel_rfl)
          clear hk
          go_simp
          exact hK _ _ (Ext.refl _) (fun d hd => by cases hd; have h1 := hneg.out; simp [SP.eq] at h1 ⊢; omega)
        · intro act W2 hk
          refine Flow.does_intro rfl (fun Kq hK => ?_)
          have e170 : act.tmps[170]?.getD undef = .bool true := hk.v 170 (by kernel_rfl)
          clear hk
          go_simp
          exact hK _ _ (Ext.refl _) (fun d hd => by cases hd; rfl)
      · intro act W2 he
        have hxW2 := Hd.mk ((Ext.drew V0).trans he.ext)
        obtain ⟨us, hA, hF⟩ := he.out [158, 159, 160, 161, 162, 163, 164, 165, 166, 167, 168, 169, 170, 171] (by kernel_rfl)
        simp only [Flow.fillL, List.contains_cons, List.contains_nil, Nat.reduceBEq, Bool.or_false, Bool.false_or, Bool.or_true, Bool.true_or, ↓reduceIte, Nat.reduceAdd, Bool.false_eq_true] at hA
        subst hA
        have f171 : us 171 = .bool false := hF 171 (by simp)
        clear hF he
        rw [f171]
        clear f171
        refine (show wpList _ _ _ [] _ _ from ?_)
        replace hrow := Hd.mk (hrow.out.ext hxW2.out)
        replace hgr := Hd.mk (grown_trans hgr.out (grown_ext hxW2.out))
        clear hxW2
        clear e1 e2
        go_wp2_with fail
        go_roundg (c - i + 1)
        case measure => have := hq.out; omega
        case rel => exact ⟨i, c, hli, hc1, by omega, ⟨by omega⟩, rfl, rfl, hF, ⟨fun c' q' x' y' k1 k2 k3 k4 k5 => by
          have h1 := hr.out
          exact lt_le_trans (le_lt_trans (i2.out q' r y' y (by omega) (by omega) hr2 k5 hy.out) hle) (i1.out c c' x x' (by omega) k1 (by omega) hx.out k4)⟩, hrow, hgr⟩
    | false =>
      have hneg := Hd.mk (cmp_lt hle)
      go_wp2_with fail
      refine Flow.wp_region_flow_l (fun qq => match qq with
        | 158 => SP.eq (.func (.func 116) #[] #[])
        | 159 => SP.eq (.slice (some ⟨g, 0, none⟩) n cap)
        | 160 => SP.eq (.int .i64 (p : Nat))
        | 161 => SP.eq (.int .i64 (c : Nat))
        | 162 => SP.eq (.int .i64 (r : Nat))
        | 163 => SP.eq (.pointer (some ⟨g, r * 6, none⟩))
        | 164 => SP.eq (.agg #[.string y.1.name, .string y.1.key, .int .i64 y.1.kind, .int .u64 y.1.num, .string y.1.text, .slice y.2.1 y.1.kids.length y.2.2])
        | 165 => SP.eq (.slice (some ⟨g, 0, none⟩) n cap)
        | 166 => SP.eq (.int .i64 (c : Nat))
        | 167 => SP.eq (.pointer (some ⟨g, c * 6, none⟩))
        | 168 => SP.eq (.agg #[.string x.1.name, .string x.1.key, .int .i64 x.1.kind, .int .u64 x.1.num, .string x.1.text, .slice x.2.1 x.1.kids.length x.2.2])
        | 169 => SP.eq (.int .i64 (cmpT y.1 x.1))
        | 170 => SP.eq (.bool false)
        | 171 => SP.eq (.bool true)
        | _ => SP.any) 14 (by kernel_rfl) 220 rfl (by kernel_rfl) ?_ ?_
      · skip
        refine ⟨?_, ?_, ?_, ?_, ?_, ?_, ?_, ?_, ?_, ?_, ?_, ?_, ?_, ?_, trivial⟩
        · intro act W2 hk
          refine Flow.does_intro rfl (fun Kq hK => ?_)
          have e4 : act.tmps[4]?.getD undef = .func (.func 116) #[] #[] := hk.o 4 (by kernel_rfl)
          clear hk
          go_simp
          exact hK _ _ (Ext.refl _) (fun d hd => by cases hd; rfl)
        · intro act W2 hk
          refine Flow.does_intro rfl (fun Kq hK => ?_)
          have e0 : act.tmps[0]?.getD undef = .slice (some ⟨g, 0, none⟩) n cap := hk.o 0 (by kernel_rfl)
          clear hk
          go_simp
          exact hK _ _ (Ext.refl _) (fun d hd => by cases hd; rfl)
        · intro act W2 hk
          refine Flow.does_intro rfl (fun Kq hK => ?_)
          have e22 : act.tmps[22]?.getD undef = .int .i64 (p : Nat) := hk.o 22 (by kernel_rfl)
          clear hk
          go_simp
          exact hK _ _ (Ext.refl _) (fun d hd => by cases hd; rfl)
        · intro act W2 hk
          refine Flow.does_intro rfl (fun Kq hK => ?_)
          have e23 : act.tmps[23]?.getD undef = .int .i64 (c : Nat) := hk.o 23 (by kernel_rfl)
          clear hk
          go_simp
          exact hK _ _ (Ext.refl _) (fun d hd => by cases hd; rfl)
        · intro act W2 hk
          refine Flow.does_intro rfl (fun Kq hK => ?_)
          have e160 : act.tmps[160]?.getD undef = .int .i64 (p : Nat) := hk.v 160 (by kernel_rfl)
          have e161 : act.tmps[161]?.getD undef = .int .i64 (c : Nat) := hk.v 161 (by kernel_rfl)
          clear hk
          go_simp
          exact hK _ _ (Ext.refl _) (fun d hd => by cases hd; have h1 := hr.out; have h2 := hrn; simp [SP.eq]; first | omega | (unfold wrap64; omega) | (rw [IntKind.wrap_i64]; omega))
        · intro act W2 hk
          refine Flow.does_intro rfl (fun Kq hK => ?_)
          have e159 : act.tmps[159]?.getD undef = .slice (some ⟨g, 0, none⟩) n cap := hk.v 159 (by kernel_rfl)
          have e162 : act.tmps[162]?.getD undef = .int .i64 (r : Nat) := hk.v 162 (by kernel_rfl)
          clear hk
          go_simp
          exact hK _ _ (Ext.refl _) (fun d hd => by cases hd; rfl)
        · intro act W2 hk
          refine Flow.does_intro rfl (fun Kq hK => ?_)
          have e163 : act.tmps[163]?.getD undef = .pointer (some ⟨g, r * 6, none⟩) := hk.v 163 (by kernel_rfl)
          have g0 := Ext.cell ((Ext.drew V0).trans hk.ext) ((hcA.out) 0 _ rfl)
          rw [Nat.add_zero] at g0
          have g1 := Ext.cell ((Ext.drew V0).trans hk.ext) ((hcA.out) 1 _ rfl)
          have g2 := Ext.cell ((Ext.drew V0).trans hk.ext) ((hcA.out) 2 _ rfl)
          have g3 := Ext.cell ((Ext.drew V0).trans hk.ext) ((hcA.out) 3 _ rfl)
          have g4 := Ext.cell ((Ext.drew V0).trans hk.ext) ((hcA.out) 4 _ rfl)
          have g5 := Ext.cell ((Ext.drew V0).trans hk.ext) ((hcA.out) 5 _ rfl)
          clear hk
          go_simp
          exact hK _ _ (Ext.refl _) (fun d hd => by cases hd; rfl)
        · intro act W2 hk
          refine Flow.does_intro rfl (fun Kq hK => ?_)
          have e0 : act.tmps[0]?.getD undef = .slice (some ⟨g, 0, none⟩) n cap := hk.o 0 (by kernel_rfl)
          clear hk
          go_simp
          exact hK _ _ (Ext.refl _) (fun d hd => by cases hd; rfl)
        · intro act W2 hk
          refine Flow.does_intro rfl (fun Kq hK => ?_)
          have e23 : act.tmps[23]?.getD undef = .int .i64 (c : Nat) := hk.o 23 (by kernel_rfl)
          clear hk
          go_simp
          exact hK _ _ (Ext.refl _) (fun d hd => by cases hd; rfl)
        · intro act W2 hk
          refine Flow.does_intro rfl (fun Kq hK => ?_)
          have e165 : act.tmps[165]?.getD undef = .slice (some ⟨g, 0, none⟩) n cap := hk.v 165 (by kernel_rfl)
          have e166 : act.tmps[166]?.getD undef = .int .i64 (c : Nat) := hk.v 166 (by kernel_rfl)
          clear hk
          go_simp
          exact hK _ _ (Ext.refl _) (fun d hd => by cases hd; rfl)
        · intro act W2 hk
          refine Flow.does_intro rfl (fun Kq hK => ?_)
          have e167 : act.tmps[167]?.getD undef = .pointer (some ⟨g, c * 6, none⟩) := hk.v 167 (by kernel_rfl)
          have g0 := Ext.cell ((Ext.drew V0).trans hk.ext) ((hcB.out) 0 _ rfl)
          rw [Nat.add_zero] at g0
          have g1 := Ext.cell ((Ext.drew V0).trans hk.ext) ((hcB.out) 1 _ rfl)
          have g2 := Ext.cell ((Ext.drew V0).trans hk.ext) ((hcB.out) 2 _ rfl)
          have g3 := Ext.cell ((Ext.drew V0).trans hk.ext) ((hcB.out) 3 _ rfl)
          have g4 := Ext.cell ((Ext.drew V0).trans hk.ext) ((hcB.out) 4 _ rfl)
          have g5 := Ext.cell ((Ext.drew V0).trans hk.ext) ((hcB.out) 5 _ rfl)
          clear hk
          go_simp
          exact hK _ _ (Ext.refl _) (fun d hd => by cases hd; rfl)
        · intro act W2 hk
          refine Flow.does_intro rfl (fun Kq hK => ?_)
          have e158 : act.tmps[158]?.getD undef = .func (.func 116) #[] #[] := hk.v 158 (by kernel_rfl)
          have e164 : act.tmps[164]?.getD undef = .agg #[.string y.1.name, .string y.1.key, .int .i64 y.1.kind, .int .u64 y.1.num, .string y.1.text, .slice y.2.1 y.1.kids.length y.2.2] := hk.v 164 (by kernel_rfl)
          have e168 : act.tmps[168]?.getD undef = .agg #[.string x.1.name, .string x.1.key, .int .i64 x.1.kind, .int .u64 x.1.num, .string x.1.text, .slice x.2.1 x.1.kids.length x.2.2] := hk.v 168 (by kernel_rfl)
          clear hk
          go_simp
          refine Calls.mono (hcmp.out _) ?_
          rintro e W3 ⟨rfl, hx⟩
          exact hK _ _ hx (fun d hd => by cases hd; rfl)
        · intro act W2 hk
          refine Flow.does_intro rfl (fun Kq hK => ?_)
          have e169 : act.tmps[169]?.getD undef = .int .i64 (cmpT y.1 x.1) := hk.v 169 (by kernel_rfl)
          clear hk
          go_simp
          exact hK _ _ (Ext.refl _) (fun d hd => by cases hd; have h1 := hneg.out; simp [SP.eq] at h1 ⊢; omega)
        · intro act W2 hk
          refine Flow.does_intro rfl (fun Kq hK => ?_)
          have e170 : act.tmps[170]?.getD undef = .bool false := hk.v 170 (by kernel_rfl)
          clear hk
          go_simp
          exact hK _ _ (Ext.refl _) (fun d hd => by cases hd; rfl)
      · intro act W2 he
        have hxW2 := Hd.mk ((Ext.drew V0).trans he.ext)
        obtain ⟨us, hA, hF⟩ := he.out [158, 159, 160, 161, 162, 163, 164, 165, 166, 167, 168, 169, 170, 171] (by kernel_rfl)
        simp only [Flow.fillL, List.contains_cons, List.contains_nil, Nat.reduceBEq, Bool.or_false, Bool.false_or, Bool.or_true, Bool.true_or, ↓reduceIte, Nat.reduceAdd, Bool.false_eq_true] at hA
        subst hA
        have f171 : us 171 = .bool true := hF 171 (by simp)
        clear hF he
        rw [f171]
        clear f171
        refine (show wpList _ _ _ [] _ _ from ?_)
        replace hrow := Hd.mk (hrow.out.ext hxW2.out)
        replace hgr := Hd.mk (grown_trans hgr.out (grown_ext hxW2.out))
        clear hxW2
        clear e1 e2
        go_wp2_with fail
        go_roundg (j - c)
        case measure => have := hq.out; omega
        case rel => exact ⟨c + 1, j, by omega, by omega, hjh, ⟨by omega⟩, by go_num, rfl, ⟨fun c' q' x' y' k1 k2 k3 k4 k5 => by
          have h1 := hr.out
          exact le_trans' (le_trans' (i1.out c' c x' x (by omega) (by omega) (by omega) k4 hx.out) hle) (i2.out r q' y y' hr1 (by omega) (by omega) hy.out k5)⟩, hT, hrow, hgr⟩
  · have hji : j = i := by omega
    subst hji
    generalize j = d at *
    obtain ⟨e, he⟩ : ∃ e, e + d = mid + m := ⟨mid + m - d, by omega⟩
    have hwe : IntKind.i64.wrap ((n0 : Int) - (d : Int)) = (e : Int) := by have := hn0.out; rw [IntKind.wrap_i64]; omega
    obtain ⟨A, U, V, B, hAU, hVB, hA, hU, hV, hB, hVU, hAB⟩ := merge_plan hl.out ha.out hmm.out hbb.out hs1.out hs2.out hli hjh he (by have := hn0.out; have := hp.out; omega) hal hhm hhd (by have := hn0.out; have := hp.out; omega) hlo2.out (.inr rfl) hF.out hT.out
    have hrow0 : Blk V0 g (rowI (pre ++ A ++ U ++ V ++ (B ++ post)) ++ sp) 54 := by have := hrow.out; rw [hl.out, hAU, hVB] at this; simpa using this
    have hln : n = (pre ++ A ++ U ++ V ++ (B ++ post)).length := by have := hn.out; rw [hl.out, hAU, hVB] at this; rw [this]; simp only [List.length_append]; omega
    have hsA : SrtLe (A ++ U) := hAU ▸ hs1.out
    have hsB : SrtLe (V ++ B) := hVB ▸ hs2.out
    subst hAU
    subst hVB
    have hge : ¬ (d : Int) < (d : Int) := by omega
    have hsz : A.length + U.length = m - a ∧ V.length + B.length = b - m := by rw [hA, hU, hV, hB]; have := hn0.out; have := hp.out; omega
    have hsz1 : 2 ≤ A.length + U.length := by omega
    have hsz2 : 2 ≤ V.length + B.length := by omega
    clear hrow hl hn i1 i2 hF hT hlt hs1 hs2 hsz
    replace hrow0 := Hd.mk hrow0
    replace hln := Hd.mk hln
    replace hsA := Hd.mk hsA
    replace hsB := Hd.mk hsB
    replace hVU := Hd.mk hVU
    replace hAB := Hd.mk hAB
    replace hA := Hd.mk hA
    replace hU := Hd.mk hU
    replace hV := Hd.mk hV
    replace hB := Hd.mk hB
    replace he := Hd.mk he
    by_cases hA0 : 0 < A.length
    · skip
      by_cases hU0 : 0 < U.length
      · skip
        by_cases hV0 : 0 < V.length
        · skip
          by_cases hB0 : 0 < B.length
          · skip
            have c1 : (d : Int) < (m : Int) := by have := hA.out; have := hU.out; have := hV.out; have := hB.out; have := he.out; have := hn0.out; omega
            have c2 : (m : Int) < (e : Int) := by have := hA.out; have := hU.out; have := hV.out; have := hB.out; have := he.out; have := hn0.out; omega
            have c3 : (a : Int) < (d : Int) := by have := hA.out; have := hU.out; have := hV.out; have := hB.out; have := he.out; have := hn0.out; omega
            have c4 : (d : Int) < (mid : Int) := by have := hA.out; have := hU.out; have := hV.out; have := hB.out; have := he.out; have := hn0.out; omega
            have c5 : (mid : Int) < (e : Int) := by have := hA.out; have := hU.out; have := hV.out; have := hB.out; have := he.out; have := hn0.out; omega
            have c6 : (e : Int) < (b : Int) := by have := hA.out; have := hU.out; have := hV.out; have := hB.out; have := he.out; have := hn0.out; omega
            have hc0 := Hd.mk (rotate (pre ++ A) U V (B ++ post) sp g cap d m e n V0 hrow0.out (by have := hA.out; have := hU.out; have := hV.out; have := hB.out; have := he.out; have := hn0.out; have := ha.out; have := hmm.out; have := hbb.out; simp only [List.length_append, List.length_nil] at *; omega) (by have := hA.out; have := hU.out; have := hV.out; have := hB.out; have := he.out; have := hn0.out; have := ha.out; have := hmm.out; have := hbb.out; simp only [List.length_append, List.length_nil] at *; omega) (by have := hA.out; have := hU.out; have := hV.out; have := hB.out; have := he.out; have := hn0.out; have := ha.out; have := hmm.out; have := hbb.out; simp only [List.length_append, List.length_nil] at *; omega) hU0 hV0 hln.out hm)
            go_wp2_with fail
            refine Calls.mono hc0.out ?_
            rintro e2 w2 ⟨rfl, hrow1, hgr2⟩
            replace hrow1 := Hd.mk hrow1
            replace hgr := Hd.mk (grown_trans hgr.out hgr2)
            clear hgr2 hc0 hrow0
            have hc1 := Hd.mk (ih.out pre A V (U ++ B ++ post) sp g cap a d mid n w2 (by simpa using hrow1.out) ha.out (by have := hA.out; have := hU.out; have := hV.out; have := hB.out; have := he.out; have := hn0.out; have := ha.out; have := hmm.out; have := hbb.out; simp only [List.length_append, List.length_nil] at *; omega) (by have := hA.out; have := hU.out; have := hV.out; have := hB.out; have := he.out; have := hn0.out; have := ha.out; have := hmm.out; have := hbb.out; simp only [List.length_append, List.length_nil] at *; omega) (by rw [hln.out]; simp only [List.length_append]; omega) hm (by have := hA.out; have := hU.out; have := hV.out; have := hB.out; have := he.out; have := hn0.out; have := ha.out; have := hmm.out; have := hbb.out; simp only [List.length_append, List.length_nil] at *; omega) hA0 hV0 (srt_app.1 hsA.out).1 (srt_app.1 hsB.out).1)
            go_wp2_with fail
            refine Calls.mono hc1.out ?_
            rintro e3 w3 ⟨rfl, ⟨L, hL1, hL2, hL3, hrow2⟩, hgr2⟩
            replace hgr := Hd.mk (grown_trans hgr.out hgr2)
            clear hgr2 hc1 hrow1
            replace hL1 := Hd.mk hL1
            replace hL2 := Hd.mk hL2
            replace hL3 := Hd.mk hL3
            replace hrow2 := Hd.mk hrow2
            have hc2 := Hd.mk (ih.out (pre ++ L) U B post sp g cap mid e b n w3 (by simpa using hrow2.out) (by have := hA.out; have := hU.out; have := hV.out; have := hB.out; have := he.out; have := hn0.out; have := ha.out; have := hmm.out; have := hbb.out; have := hL3.out; have := hln.out; simp only [List.length_append, List.length_nil] at *; omega) (by have := hA.out; have := hU.out; have := hV.out; have := hB.out; have := he.out; have := hn0.out; have := ha.out; have := hmm.out; have := hbb.out; have := hL3.out; have := hln.out; simp only [List.length_append, List.length_nil] at *; omega) (by have := hA.out; have := hU.out; have := hV.out; have := hB.out; have := he.out; have := hn0.out; have := ha.out; have := hmm.out; have := hbb.out; have := hL3.out; have := hln.out; simp only [List.length_append, List.length_nil] at *; omega) (by have := hA.out; have := hU.out; have := hV.out; have := hB.out; have := he.out; have := hn0.out; have := ha.out; have := hmm.out; have := hbb.out; have := hL3.out; have := hln.out; simp only [List.length_append, List.length_nil] at *; omega) hm (by have := hA.out; have := hU.out; have := hV.out; have := hB.out; have := he.out; have := hn0.out; have := ha.out; have := hmm.out; have := hbb.out; have := hL3.out; have := hln.out; simp only [List.length_append, List.length_nil] at *; omega) hU0 hB0 (srt_app.1 hsA.out).2.1 (srt_app.1 hsB.out).2.1)
            go_wp2_with fail
            refine Calls.mono hc2.out ?_
            rintro e4 w4 ⟨rfl, ⟨R, hR1, hR2, hR3, hrow3⟩, hgr2⟩
            replace hgr := Hd.mk (grown_trans hgr.out hgr2)
            clear hgr2 hc2 hrow2
            have hfin := Hd.mk (merge_two hsA.out hsB.out hVU.out hAB.out hL1.out hL2.out hR1 hR2)
            replace hR3 := Hd.mk hR3
            replace hrow3 := Hd.mk hrow3
            clear hR1 hR2
            go_wp2_with fail
            all_goals try go_end0
            all_goals exact ⟨rfl, ⟨L ++ R, by simpa using hfin.out.1, by simpa using hfin.out.2, by have h1 := hL3.out; have h2 := hR3.out; simp only [List.length_append, List.length_nil] at h1 h2 ⊢; omega, by simpa using hrow3.out⟩, hgr.out⟩
          · skip
            have c1 : (d : Int) < (m : Int) := by have := hA.out; have := hU.out; have := hV.out; have := hB.out; have := he.out; have := hn0.out; omega
            have c2 : (m : Int) < (e : Int) := by have := hA.out; have := hU.out; have := hV.out; have := hB.out; have := he.out; have := hn0.out; omega
            have c3 : (a : Int) < (d : Int) := by have := hA.out; have := hU.out; have := hV.out; have := hB.out; have := he.out; have := hn0.out; omega
            have c4 : (d : Int) < (mid : Int) := by have := hA.out; have := hU.out; have := hV.out; have := hB.out; have := he.out; have := hn0.out; omega
            have c5 : (mid : Int) < (e : Int) := by have := hA.out; have := hU.out; have := hV.out; have := hB.out; have := he.out; have := hn0.out; omega
            have c6 : ¬ (e : Int) < (b : Int) := by have := hA.out; have := hU.out; have := hV.out; have := hB.out; have := he.out; have := hn0.out; omega
            obtain rfl : B = [] := List.eq_nil_of_length_eq_zero (by omega)
            have hc0 := Hd.mk (rotate (pre ++ A) U V (([] : List It) ++ post) sp g cap d m e n V0 hrow0.out (by have := hA.out; have := hU.out; have := hV.out; have := hB.out; have := he.out; have := hn0.out; have := ha.out; have := hmm.out; have := hbb.out; simp only [List.length_append, List.length_nil] at *; omega) (by have := hA.out; have := hU.out; have := hV.out; have := hB.out; have := he.out; have := hn0.out; have := ha.out; have := hmm.out; have := hbb.out; simp only [List.length_append, List.length_nil] at *; omega) (by have := hA.out; have := hU.out; have := hV.out; have := hB.out; have := he.out; have := hn0.out; have := ha.out; have := hmm.out; have := hbb.out; simp only [List.length_append, List.length_nil] at *; omega) hU0 hV0 hln.out hm)
            go_wp2_with fail
            refine Calls.mono hc0.out ?_
            rintro e2 w2 ⟨rfl, hrow1, hgr2⟩
            replace hrow1 := Hd.mk hrow1
            replace hgr := Hd.mk (grown_trans hgr.out hgr2)
            clear hgr2 hc0 hrow0
            have hc1 := Hd.mk (ih.out pre A V (U ++ ([] : List It) ++ post) sp g cap a d mid n w2 (by simpa using hrow1.out) ha.out (by have := hA.out; have := hU.out; have := hV.out; have := hB.out; have := he.out; have := hn0.out; have := ha.out; have := hmm.out; have := hbb.out; simp only [List.length_append, List.length_nil] at *; omega) (by have := hA.out; have := hU.out; have := hV.out; have := hB.out; have := he.out; have := hn0.out; have := ha.out; have := hmm.out; have := hbb.out; simp only [List.length_append, List.length_nil] at *; omega) (by rw [hln.out]; simp only [List.length_append]; omega) hm (by have := hA.out; have := hU.out; have := hV.out; have := hB.out; have := he.out; have := hn0.out; have := ha.out; have := hmm.out; have := hbb.out; simp only [List.length_append, List.length_nil] at *; omega) hA0 hV0 (srt_app.1 hsA.out).1 (srt_app.1 hsB.out).1)
            go_wp2_with fail
            refine Calls.mono hc1.out ?_
            rintro e3 w3 ⟨rfl, ⟨L, hL1, hL2, hL3, hrow2⟩, hgr2⟩
            replace hgr := Hd.mk (grown_trans hgr.out hgr2)
            clear hgr2 hc1 hrow1
            replace hL1 := Hd.mk hL1
            replace hL2 := Hd.mk hL2
            replace hL3 := Hd.mk hL3
            replace hrow2 := Hd.mk hrow2
            obtain ⟨R, hR1, hR2, hR3, hrow3⟩ : ∃ R, SrtLe R ∧ SameF (U ++ ([] : List It)) R ∧ R.length = (U ++ ([] : List It)).length ∧ Blk w3 g (rowI (pre ++ L ++ R ++ post) ++ sp) 54 := ⟨U ++ ([] : List It), srt_half (srt_app.1 hsA.out).2.1 (srt_app.1 hsB.out).2.1 (.inr rfl), SameF.refl _, rfl, by simpa using hrow2.out⟩
            clear hrow2
            have hfin := Hd.mk (merge_two hsA.out hsB.out hVU.out hAB.out hL1.out hL2.out hR1 hR2)
            replace hR3 := Hd.mk hR3
            replace hrow3 := Hd.mk hrow3
            clear hR1 hR2
            go_wp2_with fail
            all_goals try go_end0
            all_goals exact ⟨rfl, ⟨L ++ R, by simpa using hfin.out.1, by simpa using hfin.out.2, by have h1 := hL3.out; have h2 := hR3.out; simp only [List.length_append, List.length_nil] at h1 h2 ⊢; omega, by simpa using hrow3.out⟩, hgr.out⟩
        · skip
          have hB0 : 0 < B.length := by omega
          have c1 : (d : Int) < (m : Int) := by have := hA.out; have := hU.out; have := hV.out; have := hB.out; have := he.out; have := hn0.out; omega
          have c2 : ¬ (m : Int) < (e : Int) := by have := hA.out; have := hU.out; have := hV.out; have := hB.out; have := he.out; have := hn0.out; omega
          have c3 : (a : Int) < (d : Int) := by have := hA.out; have := hU.out; have := hV.out; have := hB.out; have := he.out; have := hn0.out; omega
          have c4 : ¬ (d : Int) < (mid : Int) := by have := hA.out; have := hU.out; have := hV.out; have := hB.out; have := he.out; have := hn0.out; omega
          have c5 : (mid : Int) < (e : Int) := by have := hA.out; have := hU.out; have := hV.out; have := hB.out; have := he.out; have := hn0.out; omega
          have c6 : (e : Int) < (b : Int) := by have := hA.out; have := hU.out; have := hV.out; have := hB.out; have := he.out; have := hn0.out; omega
          obtain rfl : V = [] := List.eq_nil_of_length_eq_zero (by omega)
          have hrow1 : Blk V0 g (rowI (pre ++ A ++ ([] : List It) ++ U ++ (B ++ post)) ++ sp) 54 := by simpa using hrow0.out
          replace hrow1 := Hd.mk hrow1
          clear hrow0
          obtain ⟨L, hL1, hL2, hL3, hrow2⟩ : ∃ L, SrtLe L ∧ SameF (A ++ ([] : List It)) L ∧ L.length = (A ++ ([] : List It)).length ∧ Blk V0 g (rowI (pre ++ L ++ (U ++ B ++ post)) ++ sp) 54 := ⟨A ++ ([] : List It), srt_half (srt_app.1 hsA.out).1 (srt_app.1 hsB.out).1 (.inr rfl), SameF.refl _, rfl, by simpa using hrow1.out⟩
          clear hrow1
          replace hL1 := Hd.mk hL1
          replace hL2 := Hd.mk hL2
          replace hL3 := Hd.mk hL3
          replace hrow2 := Hd.mk hrow2
          have hc2 := Hd.mk (ih.out (pre ++ L) U B post sp g cap mid e b n V0 (by simpa using hrow2.out) (by have := hA.out; have := hU.out; have := hV.out; have := hB.out; have := he.out; have := hn0.out; have := ha.out; have := hmm.out; have := hbb.out; have := hL3.out; have := hln.out; simp only [List.length_append, List.length_nil] at *; omega) (by have := hA.out; have := hU.out; have := hV.out; have := hB.out; have := he.out; have := hn0.out; have := ha.out; have := hmm.out; have := hbb.out; have := hL3.out; have := hln.out; simp only [List.length_append, List.length_nil] at *; omega) (by have := hA.out; have := hU.out; have := hV.out; have := hB.out; have := he.out; have := hn0.out; have := ha.out; have := hmm.out; have := hbb.out; have := hL3.out; have := hln.out; simp only [List.length_append, List.length_nil] at *; omega) (by have := hA.out; have := hU.out; have := hV.out; have := hB.out; have := he.out; have := hn0.out; have := ha.out; have := hmm.out; have := hbb.out; have := hL3.out; have := hln.out; simp only [List.length_append, List.length_nil] at *; omega) hm (by have := hA.out; have := hU.out; have := hV.out; have := hB.out; have := he.out; have := hn0.out; have := ha.out; have := hmm.out; have := hbb.out; have := hL3.out; have := hln.out; simp only [List.length_append, List.length_nil] at *; omega) hU0 hB0 (srt_app.1 hsA.out).2.1 (srt_app.1 hsB.out).2.1)
          go_wp2_with fail
          refine Calls.mono hc2.out ?_
          rintro e4 w4 ⟨rfl, ⟨R, hR1, hR2, hR3, hrow3⟩, hgr2⟩
          replace hgr := Hd.mk (grown_trans hgr.out hgr2)
          clear hgr2 hc2 hrow2
          have hfin := Hd.mk (merge_two hsA.out hsB.out hVU.out hAB.out hL1.out hL2.out hR1 hR2)
          replace hR3 := Hd.mk hR3
          replace hrow3 := Hd.mk hrow3
          clear hR1 hR2
          go_wp2_with fail
          all_goals try go_end0
          all_goals exact ⟨rfl, ⟨L ++ R, by simpa using hfin.out.1, by simpa using hfin.out.2, by have h1 := hL3.out; have h2 := hR3.out; simp only [List.length_append, List.length_nil] at h1 h2 ⊢; omega, by simpa using hrow3.out⟩, hgr.out⟩
      · skip
        by_cases hV0 : 0 < V.length
        · skip
          by_cases hB0 : 0 < B.length
          · skip
            have c1 : ¬ (d : Int) < (m : Int) := by have := hA.out; have := hU.out; have := hV.out; have := hB.out; have := he.out; have := hn0.out; omega
            have c2 : (m : Int) < (e : Int) := by have := hA.out; have := hU.out; have := hV.out; have := hB.out; have := he.out; have := hn0.out; omega
            have c3 : (a : Int) < (d : Int) := by have := hA.out; have := hU.out; have := hV.out; have := hB.out; have := he.out; have := hn0.out; omega
            have c4 : (d : Int) < (mid : Int) := by have := hA.out; have := hU.out; have := hV.out; have := hB.out; have := he.out; have := hn0.out; omega
            have c5 : ¬ (mid : Int) < (e : Int) := by have := hA.out; have := hU.out; have := hV.out; have := hB.out; have := he.out; have := hn0.out; omega
            have c6 : (e : Int) < (b : Int) := by have := hA.out; have := hU.out; have := hV.out; have := hB.out; have := he.out; have := hn0.out; omega
            obtain rfl : U = [] := List.eq_nil_of_length_eq_zero (by omega)
            have hrow1 : Blk V0 g (rowI (pre ++ A ++ V ++ ([] : List It) ++ (B ++ post)) ++ sp) 54 := by simpa using hrow0.out
            replace hrow1 := Hd.mk hrow1
            clear hrow0
            have hc1 := Hd.mk (ih.out pre A V (([] : List It) ++ B ++ post) sp g cap a d mid n V0 (by simpa using hrow1.out) ha.out (by have := hA.out; have := hU.out; have := hV.out; have := hB.out; have := he.out; have := hn0.out; have := ha.out; have := hmm.out; have := hbb.out; simp only [List.length_append, List.length_nil] at *; omega) (by have := hA.out; have := hU.out; have := hV.out; have := hB.out; have := he.out; have := hn0.out; have := ha.out; have := hmm.out; have := hbb.out; simp only [List.length_append, List.length_nil] at *; omega) (by rw [hln.out]; simp only [List.length_append]; omega) hm (by have := hA.out; have := hU.out; have := hV.out; have := hB.out; have := he.out; have := hn0.out; have := ha.out; have := hmm.out; have := hbb.out; simp only [List.length_append, List.length_nil] at *; omega) hA0 hV0 (srt_app.1 hsA.out).1 (srt_app.1 hsB.out).1)
            go_wp2_with fail
            refine Calls.mono hc1.out ?_
            rintro e3 w3 ⟨rfl, ⟨L, hL1, hL2, hL3, hrow2⟩, hgr2⟩
            replace hgr := Hd.mk (grown_trans hgr.out hgr2)
            clear hgr2 hc1 hrow1
            replace hL1 := Hd.mk hL1
            replace hL2 := Hd.mk hL2
            replace hL3 := Hd.mk hL3
            replace hrow2 := Hd.mk hrow2
            obtain ⟨R, hR1, hR2, hR3, hrow3⟩ : ∃ R, SrtLe R ∧ SameF (([] : List It) ++ B) R ∧ R.length = (([] : List It) ++ B).length ∧ Blk w3 g (rowI (pre ++ L ++ R ++ post) ++ sp) 54 := ⟨([] : List It) ++ B, srt_half (srt_app.1 hsA.out).2.1 (srt_app.1 hsB.out).2.1 (.inl rfl), SameF.refl _, rfl, by simpa using hrow2.out⟩
            clear hrow2
            have hfin := Hd.mk (merge_two hsA.out hsB.out hVU.out hAB.out hL1.out hL2.out hR1 hR2)
            replace hR3 := Hd.mk hR3
            replace hrow3 := Hd.mk hrow3
            clear hR1 hR2
            go_wp2_with fail
            all_goals try go_end0
            all_goals exact ⟨rfl, ⟨L ++ R, by simpa using hfin.out.1, by simpa using hfin.out.2, by have h1 := hL3.out; have h2 := hR3.out; simp only [List.length_append, List.length_nil] at h1 h2 ⊢; omega, by simpa using hrow3.out⟩, hgr.out⟩
          · skip
            have c1 : ¬ (d : Int) < (m : Int) := by have := hA.out; have := hU.out; have := hV.out; have := hB.out; have := he.out; have := hn0.out; omega
            have c2 : (m : Int) < (e : Int) := by have := hA.out; have := hU.out; have := hV.out; have := hB.out; have := he.out; have := hn0.out; omega
            have c3 : (a : Int) < (d : Int) := by have := hA.out; have := hU.out; have := hV.out; have := hB.out; have := he.out; have := hn0.out; omega
            have c4 : (d : Int) < (mid : Int) := by have := hA.out; have := hU.out; have := hV.out; have := hB.out; have := he.out; have := hn0.out; omega
            have c5 : ¬ (mid : Int) < (e : Int) := by have := hA.out; have := hU.out; have := hV.out; have := hB.out; have := he.out; have := hn0.out; omega
            have c6 : ¬ (e : Int) < (b : Int) := by have := hA.out; have := hU.out; have := hV.out; have := hB.out; have := he.out; have := hn0.out; omega
            obtain rfl : U = [] := List.eq_nil_of_length_eq_zero (by omega)
            obtain rfl : B = [] := List.eq_nil_of_length_eq_zero (by omega)
            have hrow1 : Blk V0 g (rowI (pre ++ A ++ V ++ ([] : List It) ++ (([] : List It) ++ post)) ++ sp) 54 := by simpa using hrow0.out
            replace hrow1 := Hd.mk hrow1
            clear hrow0
            have hc1 := Hd.mk (ih.out pre A V (([] : List It) ++ ([] : List It) ++ post) sp g cap a d mid n V0 (by simpa using hrow1.out) ha.out (by have := hA.out; have := hU.out; have := hV.out; have := hB.out; have := he.out; have := hn0.out; have := ha.out; have := hmm.out; have := hbb.out; simp only [List.length_append, List.length_nil] at *; omega) (by have := hA.out; have := hU.out; have := hV.out; have := hB.out; have := he.out; have := hn0.out; have := ha.out; have := hmm.out; have := hbb.out; simp only [List.length_append, List.length_nil] at *; omega) (by rw [hln.out]; simp only [List.length_append]; omega) hm (by have := hA.out; have := hU.out; have := hV.out; have := hB.out; have := he.out; have := hn0.out; have := ha.out; have := hmm.out; have := hbb.out; simp only [List.length_append, List.length_nil] at *; omega) hA0 hV0 (srt_app.1 hsA.out).1 (srt_app.1 hsB.out).1)
            go_wp2_with fail
            refine Calls.mono hc1.out ?_
            rintro e3 w3 ⟨rfl, ⟨L, hL1, hL2, hL3, hrow2⟩, hgr2⟩
            replace hgr := Hd.mk (grown_trans hgr.out hgr2)
            clear hgr2 hc1 hrow1
            replace hL1 := Hd.mk hL1
            replace hL2 := Hd.mk hL2
            replace hL3 := Hd.mk hL3
            replace hrow2 := Hd.mk hrow2
            obtain ⟨R, hR1, hR2, hR3, hrow3⟩ : ∃ R, SrtLe R ∧ SameF (([] : List It) ++ ([] : List It)) R ∧ R.length = (([] : List It) ++ ([] : List It)).length ∧ Blk w3 g (rowI (pre ++ L ++ R ++ post) ++ sp) 54 := ⟨([] : List It) ++ ([] : List It), srt_half (srt_app.1 hsA.out).2.1 (srt_app.1 hsB.out).2.1 (.inl rfl), SameF.refl _, rfl, by simpa using hrow2.out⟩
            clear hrow2
            have hfin := Hd.mk (merge_two hsA.out hsB.out hVU.out hAB.out hL1.out hL2.out hR1 hR2)
            replace hR3 := Hd.mk hR3
            replace hrow3 := Hd.mk hrow3
            clear hR1 hR2
            go_wp2_with fail
            all_goals try go_end0
            all_goals exact ⟨rfl, ⟨L ++ R, by simpa using hfin.out.1, by simpa using hfin.out.2, by have h1 := hL3.out; have h2 := hR3.out; simp only [List.length_append, List.length_nil] at h1 h2 ⊢; omega, by simpa using hrow3.out⟩, hgr.out⟩
        · skip
          have hB0 : 0 < B.length := by omega
          have c1 : ¬ (d : Int) < (m : Int) := by have := hA.out; have := hU.out; have := hV.out; have := hB.out; have := he.out; have := hn0.out; omega
          have c2 : ¬ (m : Int) < (e : Int) := by have := hA.out; have := hU.out; have := hV.out; have := hB.out; have := he.out; have := hn0.out; omega
          have c3 : (a : Int) < (d : Int) := by have := hA.out; have := hU.out; have := hV.out; have := hB.out; have := he.out; have := hn0.out; omega
          have c4 : ¬ (d : Int) < (mid : Int) := by have := hA.out; have := hU.out; have := hV.out; have := hB.out; have := he.out; have := hn0.out; omega
          have c5 : ¬ (mid : Int) < (e : Int) := by have := hA.out; have := hU.out; have := hV.out; have := hB.out; have := he.out; have := hn0.out; omega
          have c6 : (e : Int) < (b : Int) := by have := hA.out; have := hU.out; have := hV.out; have := hB.out; have := he.out; have := hn0.out; omega
          obtain rfl : U = [] := List.eq_nil_of_length_eq_zero (by omega)
          obtain rfl : V = [] := List.eq_nil_of_length_eq_zero (by omega)
          have hrow1 : Blk V0 g (rowI (pre ++ A ++ ([] : List It) ++ ([] : List It) ++ (B ++ post)) ++ sp) 54 := by simpa using hrow0.out
          replace hrow1 := Hd.mk hrow1
          clear hrow0
          obtain ⟨L, hL1, hL2, hL3, hrow2⟩ : ∃ L, SrtLe L ∧ SameF (A ++ ([] : List It)) L ∧ L.length = (A ++ ([] : List It)).length ∧ Blk V0 g (rowI (pre ++ L ++ (([] : List It) ++ B ++ post)) ++ sp) 54 := ⟨A ++ ([] : List It), srt_half (srt_app.1 hsA.out).1 (srt_app.1 hsB.out).1 (.inr rfl), SameF.refl _, rfl, by simpa using hrow1.out⟩
          clear hrow1
          replace hL1 := Hd.mk hL1
          replace hL2 := Hd.mk hL2
          replace hL3 := Hd.mk hL3
          replace hrow2 := Hd.mk hrow2
          obtain ⟨R, hR1, hR2, hR3, hrow3⟩ : ∃ R, SrtLe R ∧ SameF (([] : List It) ++ B) R ∧ R.length = (([] : List It) ++ B).length ∧ Blk V0 g (rowI (pre ++ L ++ R ++ post) ++ sp) 54 := ⟨([] : List It) ++ B, srt_half (srt_app.1 hsA.out).2.1 (srt_app.1 hsB.out).2.1 (.inl rfl), SameF.refl _, rfl, by simpa using hrow2.out⟩
          clear hrow2
          have hfin := Hd.mk (merge_two hsA.out hsB.out hVU.out hAB.out hL1.out hL2.out hR1 hR2)
          replace hR3 := Hd.mk hR3
          replace hrow3 := Hd.mk hrow3
          clear hR1 hR2
          go_wp2_with fail
          all_goals try go_end0
          all_goals exact ⟨rfl, ⟨L ++ R, by simpa using hfin.out.1, by simpa using hfin.out.2, by have h1 := hL3.out; have h2 := hR3.out; simp only [List.length_append, List.length_nil] at h1 h2 ⊢; omega, by simpa using hrow3.out⟩, hgr.out⟩
    · skip
      have hU0 : 0 < U.length := by omega
      by_cases hV0 : 0 < V.length
      · skip
        by_cases hB0 : 0 < B.length
        · skip
          have c1 : (d : Int) < (m : Int) := by have := hA.out; have := hU.out; have := hV.out; have := hB.out; have := he.out; have := hn0.out; omega
          have c2 : (m : Int) < (e : Int) := by have := hA.out; have := hU.out; have := hV.out; have := hB.out; have := he.out; have := hn0.out; omega
          have c3 : ¬ (a : Int) < (d : Int) := by have := hA.out; have := hU.out; have := hV.out; have := hB.out; have := he.out; have := hn0.out; omega
          have c4 : (d : Int) < (mid : Int) := by have := hA.out; have := hU.out; have := hV.out; have := hB.out; have := he.out; have := hn0.out; omega
          have c5 : (mid : Int) < (e : Int) := by have := hA.out; have := hU.out; have := hV.out; have := hB.out; have := he.out; have := hn0.out; omega
          have c6 : (e : Int) < (b : Int) := by have := hA.out; have := hU.out; have := hV.out; have := hB.out; have := he.out; have := hn0.out; omega
          obtain rfl : A = [] := List.eq_nil_of_length_eq_zero (by omega)
          have hc0 := Hd.mk (rotate (pre ++ ([] : List It)) U V (B ++ post) sp g cap d m e n V0 hrow0.out (by have := hA.out; have := hU.out; have := hV.out; have := hB.out; have := he.out; have := hn0.out; have := ha.out; have := hmm.out; have := hbb.out; simp only [List.length_append, List.length_nil] at *; omega) (by have := hA.out; have := hU.out; have := hV.out; have := hB.out; have := he.out; have := hn0.out; have := ha.out; have := hmm.out; have := hbb.out; simp only [List.length_append, List.length_nil] at *; omega) (by have := hA.out; have := hU.out; have := hV.out; have := hB.out; have := he.out; have := hn0.out; have := ha.out; have := hmm.out; have := hbb.out; simp only [List.length_append, List.length_nil] at *; omega) hU0 hV0 hln.out hm)
          go_wp2_with fail
          refine Calls.mono hc0.out ?_
          rintro e2 w2 ⟨rfl, hrow1, hgr2⟩
          replace hrow1 := Hd.mk hrow1
          replace hgr := Hd.mk (grown_trans hgr.out hgr2)
          clear hgr2 hc0 hrow0
          obtain ⟨L, hL1, hL2, hL3, hrow2⟩ : ∃ L, SrtLe L ∧ SameF (([] : List It) ++ V) L ∧ L.length = (([] : List It) ++ V).length ∧ Blk w2 g (rowI (pre ++ L ++ (U ++ B ++ post)) ++ sp) 54 := ⟨([] : List It) ++ V, srt_half (srt_app.1 hsA.out).1 (srt_app.1 hsB.out).1 (.inl rfl), SameF.refl _, rfl, by simpa using hrow1.out⟩
          clear hrow1
          replace hL1 := Hd.mk hL1
          replace hL2 := Hd.mk hL2
          replace hL3 := Hd.mk hL3
          replace hrow2 := Hd.mk hrow2
          have hc2 := Hd.mk (ih.out (pre ++ L) U B post sp g cap mid e b n w2 (by simpa using hrow2.out) (by have := hA.out; have := hU.out; have := hV.out; have := hB.out; have := he.out; have := hn0.out; have := ha.out; have := hmm.out; have := hbb.out; have := hL3.out; have := hln.out; simp only [List.length_append, List.length_nil] at *; omega) (by have := hA.out; have := hU.out; have := hV.out; have := hB.out; have := he.out; have := hn0.out; have := ha.out; have := hmm.out; have := hbb.out; have := hL3.out; have := hln.out; simp only [List.length_append, List.length_nil] at *; omega) (by have := hA.out; have := hU.out; have := hV.out; have := hB.out; have := he.out; have := hn0.out; have := ha.out; have := hmm.out; have := hbb.out; have := hL3.out; have := hln.out; simp only [List.length_append, List.length_nil] at *; omega) (by have := hA.out; have := hU.out; have := hV.out; have := hB.out; have := he.out; have := hn0.out; have := ha.out; have := hmm.out; have := hbb.out; have := hL3.out; have := hln.out; simp only [List.length_append, List.length_nil] at *; omega) hm (by have := hA.out; have := hU.out; have := hV.out; have := hB.out; have := he.out; have := hn0.out; have := ha.out; have := hmm.out; have := hbb.out; have := hL3.out; have := hln.out; simp only [List.length_append, List.length_nil] at *; omega) hU0 hB0 (srt_app.1 hsA.out).2.1 (srt_app.1 hsB.out).2.1)
          go_wp2_with fail
          refine Calls.mono hc2.out ?_
          rintro e4 w4 ⟨rfl, ⟨R, hR1, hR2, hR3, hrow3⟩, hgr2⟩
          replace hgr := Hd.mk (grown_trans hgr.out hgr2)
          clear hgr2 hc2 hrow2
          have hfin := Hd.mk (merge_two hsA.out hsB.out hVU.out hAB.out hL1.out hL2.out hR1 hR2)
          replace hR3 := Hd.mk hR3
          replace hrow3 := Hd.mk hrow3
          clear hR1 hR2
          go_wp2_with fail
          all_goals try go_end0
          all_goals exact ⟨rfl, ⟨L ++ R, by simpa using hfin.out.1, by simpa using hfin.out.2, by have h1 := hL3.out; have h2 := hR3.out; simp only [List.length_append, List.length_nil] at h1 h2 ⊢; omega, by simpa using hrow3.out⟩, hgr.out⟩
        · skip
          have c1 : (d : Int) < (m : Int) := by have := hA.out; have := hU.out; have := hV.out; have := hB.out; have := he.out; have := hn0.out; omega
          have c2 : (m : Int) < (e : Int) := by have := hA.out; have := hU.out; have := hV.out; have := hB.out; have := he.out; have := hn0.out; omega
          have c3 : ¬ (a : Int) < (d : Int) := by have := hA.out; have := hU.out; have := hV.out; have := hB.out; have := he.out; have := hn0.out; omega
          have c4 : (d : Int) < (mid : Int) := by have := hA.out; have := hU.out; have := hV.out; have := hB.out; have := he.out; have := hn0.out; omega
          have c5 : (mid : Int) < (e : Int) := by have := hA.out; have := hU.out; have := hV.out; have := hB.out; have := he.out; have := hn0.out; omega
          have c6 : ¬ (e : Int) < (b : Int) := by have := hA.out; have := hU.out; have := hV.out; have := hB.out; have := he.out; have := hn0.out; omega
          obtain rfl : A = [] := List.eq_nil_of_length_eq_zero (by omega)
          obtain rfl : B = [] := List.eq_nil_of_length_eq_zero (by omega)
          have hc0 := Hd.mk (rotate (pre ++ ([] : List It)) U V (([] : List It) ++ post) sp g cap d m e n V0 hrow0.out (by have := hA.out; have := hU.out; have := hV.out; have := hB.out; have := he.out; have := hn0.out; have := ha.out; have := hmm.out; have := hbb.out; simp only [List.length_append, List.length_nil] at *; omega) (by have := hA.out; have := hU.out; have := hV.out; have := hB.out; have := he.out; have := hn0.out; have := ha.out; have := hmm.out; have := hbb.out; simp only [List.length_append, List.length_nil] at *; omega) (by have := hA.out; have := hU.out; have := hV.out; have := hB.out; have := he.out; have := hn0.out; have := ha.out; have := hmm.out; have := hbb.out; simp only [List.length_append, List.length_nil] at *; omega) hU0 hV0 hln.out hm)
          go_wp2_with fail
          refine Calls.mono hc0.out ?_
          rintro e2 w2 ⟨rfl, hrow1, hgr2⟩
          replace hrow1 := Hd.mk hrow1
          replace hgr := Hd.mk (grown_trans hgr.out hgr2)
          clear hgr2 hc0 hrow0
          obtain ⟨L, hL1, hL2, hL3, hrow2⟩ : ∃ L, SrtLe L ∧ SameF (([] : List It) ++ V) L ∧ L.length = (([] : List It) ++ V).length ∧ Blk w2 g (rowI (pre ++ L ++ (U ++ ([] : List It) ++ post)) ++ sp) 54 := ⟨([] : List It) ++ V, srt_half (srt_app.1 hsA.out).1 (srt_app.1 hsB.out).1 (.inl rfl), SameF.refl _, rfl, by simpa using hrow1.out⟩
          clear hrow1
          replace hL1 := Hd.mk hL1
          replace hL2 := Hd.mk hL2
          replace hL3 := Hd.mk hL3
          replace hrow2 := Hd.mk hrow2
          obtain ⟨R, hR1, hR2, hR3, hrow3⟩ : ∃ R, SrtLe R ∧ SameF (U ++ ([] : List It)) R ∧ R.length = (U ++ ([] : List It)).length ∧ Blk w2 g (rowI (pre ++ L ++ R ++ post) ++ sp) 54 := ⟨U ++ ([] : List It), srt_half (srt_app.1 hsA.out).2.1 (srt_app.1 hsB.out).2.1 (.inr rfl), SameF.refl _, rfl, by simpa using hrow2.out⟩
          clear hrow2
          have hfin := Hd.mk (merge_two hsA.out hsB.out hVU.out hAB.out hL1.out hL2.out hR1 hR2)
          replace hR3 := Hd.mk hR3
          replace hrow3 := Hd.mk hrow3
          clear hR1 hR2
          go_wp2_with fail
          all_goals try go_end0
          all_goals exact ⟨rfl, ⟨L ++ R, by simpa using hfin.out.1, by simpa using hfin.out.2, by have h1 := hL3.out; have h2 := hR3.out; simp only [List.length_append, List.length_nil] at h1 h2 ⊢; omega, by simpa using hrow3.out⟩, hgr.out⟩
      · skip
        have hB0 : 0 < B.length := by omega
        have c1 : (d : Int) < (m : Int) := by have := hA.out; have := hU.out; have := hV.out; have := hB.out; have := he.out; have := hn0.out; omega
        have c2 : ¬ (m : Int) < (e : Int) := by have := hA.out; have := hU.out; have := hV.out; have := hB.out; have := he.out; have := hn0.out; omega
        have c3 : ¬ (a : Int) < (d : Int) := by have := hA.out; have := hU.out; have := hV.out; have := hB.out; have := he.out; have := hn0.out; omega
        have c4 : ¬ (d : Int) < (mid : Int) := by have := hA.out; have := hU.out; have := hV.out; have := hB.out; have := he.out; have := hn0.out; omega
        have c5 : (mid : Int) < (e : Int) := by have := hA.out; have := hU.out; have := hV.out; have := hB.out; have := he.out; have := hn0.out; omega
        have c6 : (e : Int) < (b : Int) := by have := hA.out; have := hU.out; have := hV.out; have := hB.out; have := he.out; have := hn0.out; omega
        obtain rfl : A = [] := List.eq_nil_of_length_eq_zero (by omega)
        obtain rfl : V = [] := List.eq_nil_of_length_eq_zero (by omega)
        have hrow1 : Blk V0 g (rowI (pre ++ ([] : List It) ++ ([] : List It) ++ U ++ (B ++ post)) ++ sp) 54 := by simpa using hrow0.out
        replace hrow1 := Hd.mk hrow1
        clear hrow0
        obtain ⟨L, hL1, hL2, hL3, hrow2⟩ : ∃ L, SrtLe L ∧ SameF (([] : List It) ++ ([] : List It)) L ∧ L.length = (([] : List It) ++ ([] : List It)).length ∧ Blk V0 g (rowI (pre ++ L ++ (U ++ B ++ post)) ++ sp) 54 := ⟨([] : List It) ++ ([] : List It), srt_half (srt_app.1 hsA.out).1 (srt_app.1 hsB.out).1 (.inl rfl), SameF.refl _, rfl, by simpa using hrow1.out⟩
        clear hrow1
        replace hL1 := Hd.mk hL1
        replace hL2 := Hd.mk hL2
        replace hL3 := Hd.mk hL3
        replace hrow2 := Hd.mk hrow2
        have hc2 := Hd.mk (ih.out (pre ++ L) U B post sp g cap mid e b n V0 (by simpa using hrow2.out) (by have := hA.out; have := hU.out; have := hV.out; have := hB.out; have := he.out; have := hn0.out; have := ha.out; have := hmm.out; have := hbb.out; have := hL3.out; have := hln.out; simp only [List.length_append, List.length_nil] at *; omega) (by have := hA.out; have := hU.out; have := hV.out; have := hB.out; have := he.out; have := hn0.out; have := ha.out; have := hmm.out; have := hbb.out; have := hL3.out; have := hln.out; simp only [List.length_append, List.length_nil] at *; omega) (by have := hA.out; have := hU.out; have := hV.out; have := hB.out; have := he.out; have := hn0.out; have := ha.out; have := hmm.out; have := hbb.out; have := hL3.out; have := hln.out; simp only [List.length_append, List.length_nil] at *; omega) (by have := hA.out; have := hU.out; have := hV.out; have := hB.out; have := he.out; have := hn0.out; have := ha.out; have := hmm.out; have := hbb.out; have := hL3.out; have := hln.out; simp only [List.length_append, List.length_nil] at *; omega) hm (by have := hA.out; have := hU.out; have := hV.out; have := hB.out; have := he.out; have := hn0.out; have := ha.out; have := hmm.out; have := hbb.out; have := hL3.out; have := hln.out; simp only [List.length_append, List.length_nil] at *; omega) hU0 hB0 (srt_app.1 hsA.out).2.1 (srt_app.1 hsB.out).2.1)
        go_wp2_with fail
        refine Calls.mono hc2.out ?_
        rintro e4 w4 ⟨rfl, ⟨R, hR1, hR2, hR3, hrow3⟩, hgr2⟩
        replace hgr := Hd.mk (grown_trans hgr.out hgr2)
        clear hgr2 hc2 hrow2
        have hfin := Hd.mk (merge_two hsA.out hsB.out hVU.out hAB.out hL1.out hL2.out hR1 hR2)
        replace hR3 := Hd.mk hR3
        replace hrow3 := Hd.mk hrow3
        clear hR1 hR2
        go_wp2_with fail
        all_goals try go_end0
        all_goals exact ⟨rfl, ⟨L ++ R, by simpa using hfin.out.1, by simpa using hfin.out.2, by have h1 := hL3.out; have h2 := hR3.out; simp only [List.length_append, List.length_nil] at h1 h2 ⊢; omega, by simpa using hrow3.out⟩, hgr.out⟩
end Go.Proofs.Ytgkgedjmnbjalaa
set_option linter.unusedSimpArgs false
namespace Go.Proofs.Ytgkgedjmnbjalaa
open Go.RowKit Go.Sort
def spTF (k : T) (B : Nat) : SP := ⟨fun v w => ∃ c : List Value, v = .agg c.toArray ∧ RF (fun b => B ≤ b) w k c, fun _ _ _ h ⟨c, e, hr⟩ => ⟨c, e, hr.ext h⟩⟩
set_option maxRecDepth 100000 in
set_option maxHeartbeats 1500000 in
theorem tree_sortedF (L : Nat) (hL : L ≤ 1048576) (H : 20 < L → SymOK L) : ∀ (N : Nat) (t : T) (S : Nat → Prop) (w : World) (c : List Value), t.deep ≤ N → t.size ≤ L → RT S w t c → Calls Try.prog 61 #[.agg c.toArray] w (Ret (SortPostF t w))
  | 0, t, S, w, c, hn, _, _ => by rw [t.deep_eq] at hn; omega
  | N + 1, t, S, w, c, hn, hsz, h => by
    obtain ⟨K0, k0, rfl, hrow0⟩ := h.row
    have kr := Hd.mk h
    have ih := Hd.mk (tree_sortedF L hL H N)
    have hkL : t.kids.length < L := by have h1 := sizeL_len t.kids; rw [t.size_eq] at hsz; omega
    have hkids := Hd.mk (fun (j : Nat) k (hk : t.kids[j]? = some k) => (⟨by have := kid_deep hk; omega, by have := kid_size hk; omega⟩ : k.deep ≤ N ∧ k.size ≤ L))
    have hcl := Hd.mk (fun W (hx : Ext w W) => own_clone t.deep t S W _ (Nat.le_refl _) (h.ext hx))
    clear h hrow0 hn hsz kr
    replace H := Hd.mk H
    simp only [cT] at hcl ⊢
    go_enter Try.func61, Try.ntmps61
    go_wp2_with fail
    have kx := Hd.mk ((Ext.alloc w (.cells #[.string t.name, .string t.key, .int .i64 t.kind, .int .u64 t.num, .string t.text, .slice K0 t.kids.length k0] 54)).trans (Ext.alloc _ (.cells #[.string ⟨#[]⟩, .string ⟨#[]⟩, .int .i64 0, .int .u64 0, .string ⟨#[]⟩, .slice none 0 0] 54)))
    have kA := Hd.mk ((Blk.new w #[.string t.name, .string t.key, .int .i64 t.kind, .int .u64 t.num, .string t.text, .slice K0 t.kids.length k0] 54).alloc (.cells #[.string ⟨#[]⟩, .string ⟨#[]⟩, .int .i64 0, .int .u64 0, .string ⟨#[]⟩, .slice none 0 0] 54))
    have kR := Hd.mk (Blk.new2 w (.cells #[.string t.name, .string t.key, .int .i64 t.kind, .int .u64 t.num, .string t.text, .slice K0 t.kids.length k0] 54) #[.string ⟨#[]⟩, .string ⟨#[]⟩, .int .i64 0, .int .u64 0, .string ⟨#[]⟩, .slice none 0 0] 54)
    have hpW := Hd.mk (show w.heap.size + 1 < ((w.alloc _).alloc _).heap.size from kR.out.lt)
    generalize (w.alloc _).alloc _ = W at *
    generalize hp : w.heap.size = p at *
    replace hp := Hd.mk hp
    have gA := kA.out.cell
    go_wp2_with fail
    refine Calls.mono (hcl.out _ kx.out) ?_
    rintro e w1 ⟨_, rfl, c1, rfl, ho, hx⟩
    obtain ⟨K, kc, css, Si, rfl, hro⟩ := ho.row
    replace kx := Hd.mk (kx.out.trans hx)
    replace kA := Hd.mk (kA.out.ext hx)
    replace kR := Hd.mk (kR.out.ext hx)
    have hWs := hx.size
    clear hx ho hcl gA
    simp only [cT]
    obtain ⟨hkc, hkm, hknul, hkown⟩ := own_cap hro.own
    have gA := kA.out.cell
    have fA := kA.out.free
    by_cases hz : t.kids.length = 0
    · rw [hz] at hkc ⊢
      have hn0 := List.eq_nil_of_length_eq_zero hz
      have hsrt : sortT t = t := by rw [sortT_eq, hn0, sortL_nil, ← hn0]; exact wk_self t
      have hrr0 : ∀ W, RF (fun b => w.heap.size ≤ b) W t [.string t.name, .string t.key, .int .i64 t.kind, .int .u64 t.num, .string t.text, .slice K 0 kc] := fun W => by
        have h1 : RRow (fun b => w.heap.size ≤ b ∧ Fre W b) W K t.kids kc := by rw [hn0]; exact RRow.nil _ _ _ _ hknul
        have h0 := RT.of_row h1
        rw [hz] at h0
        exact h0
      replace hrr0 := Hd.mk hrr0
      replace hsrt := Hd.mk hsrt
      clear hn0
      go_wp2_with ((with_reducible refine stop_at (.load 52 (.tmp 7)) ?_))
      refine Stop.mk ?_
      have hu := Hd.mk ((((((Upd.setCell w1 ⟨p, 0, none⟩ (.string t.name)).trans (Upd.setCell _ ⟨p, 1, none⟩ (.string t.key))).trans (Upd.setCell _ ⟨p, 2, none⟩ (.int .i64 t.kind))).trans (Upd.setCell _ ⟨p, 3, none⟩ (.int .u64 t.num))).trans (Upd.setCell _ ⟨p, 4, none⟩ (.string t.text))).trans (Upd.setCell _ ⟨p, 5, none⟩ (.slice K 0 kc)))
      have kA2 := Hd.mk (show Blk _ p [.string t.name, .string t.key, .int .i64 t.kind, .int .u64 t.num, .string t.text, .slice K 0 kc] 54 from ((((((kA.out.setCell 0 (.string t.name)).setCell 1 (.string t.key)).setCell 2 (.int .i64 t.kind)).setCell 3 (.int .u64 t.num)).setCell 4 (.string t.text)).setCell 5 (.slice K 0 kc)))
      generalize ((((((w1.setCell _ _).setCell _ _).setCell _ _).setCell _ _).setCell _ _).setCell _ _) = w2 at *
      replace kR := Hd.mk (hu.out.blk (by show p + 1 ≠ p; omega) kR.out)
      replace kx := Hd.mk (show Ext w w2 from Below.trans kx.out (hu.out.below (Nat.le_of_eq hp.out)))
      clear hu gA fA kA
      have gA := kA2.out.cell
      go_wp2_with fail
      refine wp_loop_rounds 1 ?_
      rw [rounds_succ]
      go_wp2_with fail
      refine Calls.mono (sort_none K kc w2) ?_
      rintro e w3 ⟨rfl, rfl⟩
      have gR := kR.out.cell
      have fR := kR.out.free
      go_wp2_with fail
      have hu := Hd.mk ((((((Upd.setCell w3 ⟨p + 1, 0, none⟩ (.string t.name)).trans (Upd.setCell _ ⟨p + 1, 1, none⟩ (.string t.key))).trans (Upd.setCell _ ⟨p + 1, 2, none⟩ (.int .i64 t.kind))).trans (Upd.setCell _ ⟨p + 1, 3, none⟩ (.int .u64 t.num))).trans (Upd.setCell _ ⟨p + 1, 4, none⟩ (.string t.text))).trans (Upd.setCell _ ⟨p + 1, 5, none⟩ (.slice K 0 kc)))
      exact ret_box rfl (p + 1) _ 54 _ ((((((kR.out.setCell 0 (.string t.name)).setCell 1 (.string t.key)).setCell 2 (.int .i64 t.kind)).setCell 3 (.int .u64 t.num)).setCell 4 (.string t.text)).setCell 5 (.slice K 0 kc)) rfl rfl Try.underlying54 rfl size54
        ⟨_, rfl, _, rfl, by rw [hsrt.out]; exact hrr0.out _, Below.trans kx.out (hu.out.below (by rw [hp.out]; show p ≤ p + 1; omega))⟩
    · obtain ⟨g, cap9, sp, hv, _, hbk, _, _, _⟩ := own_form hro.own (by omega)
      simp only [Value.slice.injEq] at hv
      obtain ⟨rfl, _, hc9⟩ := hv
      subst hc9
      have hgS := (hro.g g rfl)
      obtain ⟨l0, hl1, hl2, hl3⟩ := items_of t.kids css (fun i b => Si i b ∧ Fre w1 b) hro.hl (fun i k c hk hc => (hro.each i k c hk hc).rf)
      have hll : l0.length = t.kids.length := by rw [← hl1, List.length_map]
      have hg0 : W.heap.size ≤ g := hgS.1.1
      have hb0 : Blk w1 g (rowI l0 ++ sp) 54 := by unfold rowI; rw [hl2]; exact hbk
      have hr0 : ∀ x ∈ l0, RF (fun b => b ≠ g ∧ p + 2 ≤ b) w1 x.1 (cI x) := fun x hx => by
        obtain ⟨i, hi⟩ := List.getElem?_of_mem hx
        refine RF.mono (hl3 i x hi) fun b _ hb => ⟨fun e => hgS.2 i (e ▸ hb), ?_⟩
        have h1 := (hro.sub i b hb).1
        have h2 := hpW.out
        omega
      replace hb0 := Hd.mk hb0
      replace hr0 := Hd.mk hr0
      have hgp := Hd.mk (show p + 2 ≤ g by have := hpW.out; omega)
      have hI0 := Hd.mk (show l0.map (·.1) = (t.kids.take 0).map sortT ++ t.kids.drop 0 by rw [hl1]; rfl)
      have hkb := hro.hb
      clear hro hgS hl1 hl2 hl3 hbk hkown hll hg0 hknul
      go_wp2_with ((with_reducible refine stop_at (.load 52 (.tmp 7)) ?_))
      refine Stop.mk ?_
      have hu := Hd.mk ((((((Upd.setCell w1 ⟨p, 0, none⟩ (.string t.name)).trans (Upd.setCell _ ⟨p, 1, none⟩ (.string t.key))).trans (Upd.setCell _ ⟨p, 2, none⟩ (.int .i64 t.kind))).trans (Upd.setCell _ ⟨p, 3, none⟩ (.int .u64 t.num))).trans (Upd.setCell _ ⟨p, 4, none⟩ (.string t.text))).trans (Upd.setCell _ ⟨p, 5, none⟩ (.slice (some ⟨g, 0, none⟩) t.kids.length kc)))
      have kA2 := Hd.mk (show Blk _ p [.string t.name, .string t.key, .int .i64 t.kind, .int .u64 t.num, .string t.text, .slice (some ⟨g, 0, none⟩) t.kids.length kc] 54 from ((((((kA.out.setCell 0 (.string t.name)).setCell 1 (.string t.key)).setCell 2 (.int .i64 t.kind)).setCell 3 (.int .u64 t.num)).setCell 4 (.string t.text)).setCell 5 (.slice (some ⟨g, 0, none⟩) t.kids.length kc)))
      generalize ((((((w1.setCell _ _).setCell _ _).setCell _ _).setCell _ _).setCell _ _).setCell _ _) = w2 at *
      replace kR := Hd.mk (hu.out.blk (by show p + 1 ≠ p; omega) kR.out)
      replace kx := Hd.mk (show Ext w w2 from Below.trans kx.out (hu.out.below (Nat.le_of_eq hp.out)))
      replace hb0 := Hd.mk (hu.out.blk (by have := hgp.out; show g ≠ p; omega) hb0.out)
      replace hr0 := Hd.mk (fun x hx => (hr0.out x hx).upd hu.out (fun h => by have h2 : p + 2 ≤ p := h.2; omega))
      clear hu gA fA kA
      have gA := kA2.out.cell
      go_wp2_with fail
      clear gA
      go_loopg [10] (t.kids.length + 1) (fun q i wr => ∃ j : Nat, j ≤ t.kids.length ∧ Hd (q = t.kids.length + 1 - j) ∧ i = .int .i64 j ∧ ∃ l : List It, Hd (l.map (·.1) = (t.kids.take j).map sortT ++ t.kids.drop j) ∧ Hd (Blk wr g (rowI l ++ sp) 54) ∧ Hd (∀ x ∈ l, RF (fun b => b ≠ g ∧ p + 2 ≤ b) wr x.1 (cI x)) ∧ Hd (Blk wr p [.string t.name, .string t.key, .int .i64 t.kind, .int .u64 t.num, .string t.text, .slice (some ⟨g, 0, none⟩) t.kids.length kc] 54) ∧ Hd (Blk wr (p + 1) [.string ⟨#[]⟩, .string ⟨#[]⟩, .int .i64 0, .int .u64 0, .string ⟨#[]⟩, .slice none 0 0] 54) ∧ Hd (Ext w wr))
      case atStart => exact ⟨0, by omega, ⟨by omega⟩, rfl, l0, hI0, hb0, hr0, kA2, kR, kx⟩
      case round =>
      clear hI0 hb0 hr0 kA2 kR kx
      obtain ⟨j, hj, hq, rfl, l, hI, hrow, hrt, kA, kR, kx⟩ := hrel
      have hll : l.length = t.kids.length := by
        have := congrArg List.length hI.out
        simp only [List.length_map, List.length_append, List.length_take, List.length_drop] at this
        omega
      replace hll := Hd.mk hll
      by_cases hlt : j < t.kids.length
      · have hk1 := List.getElem?_eq_getElem hlt
        generalize t.kids[j] = k at hk1
        have hjl : j < l.length := by rw [hll.out]; exact hlt
        have hx1 := List.getElem?_eq_getElem hjl
        generalize l[j] = x at hx1
        have hxk : x.1 = k := by
          have h1 := congrArg (fun z => z[j]?) hI.out
          simp only [List.getElem?_map, hx1, Option.map_some] at h1
          rw [List.getElem?_append_right (by rw [List.length_map, List.length_take]; omega), List.length_map, List.length_take, List.getElem?_drop, show j + (j - min j t.kids.length) = j by omega, hk1] at h1
          exact Option.some.inj h1
        have hnx := Hd.mk (turn_next hk1)
        obtain ⟨hd9, hs9⟩ := hkids.out j k hk1
        rw [← hxk] at hd9 hs9 hnx
        have hrx := Hd.mk (hrt.out x (List.mem_of_getElem? hx1))
        have hcx := rowI_cell hrow.out hx1
        simp only [cI] at hcx
        obtain ⟨e0, e1, e2, e3, e4, e5⟩ := six (Ext.refl wr) hcx
        have hlt0 : (j : Int) < (t.kids.length : Int) := by omega
        have hrec := Hd.mk (fun W (hx : Ext wr W) => (show Calls Try.prog 61 #[.agg (cI x).toArray] W (Ret fun w' v => ∃ c : List Value, v = .agg c.toArray ∧ RF (fun b => W.heap.size ≤ b) w' (sortT x.1) c ∧ Ext W w') from ih.out x.1 _ W _ hd9 hs9 (hrx.out.ext hx)))
        simp only [cI] at hrec
        have hgl := Hd.mk hrow.out.lt
        clear hcx hk1 hxk hd9 hs9 hx1
        replace hjl := Hd.mk hjl
        generalize sortT x.1 = y1 at *
        go_wp2_with fail
        have hxb := Hd.mk (Ext.alloc wr (.cells #[.string x.1.name, .string x.1.key, .int .i64 x.1.kind, .int .u64 x.1.num, .string x.1.text, .slice x.2.1 x.1.kids.length x.2.2] 54))
        have kB := Hd.mk (Blk.new wr #[.string x.1.name, .string x.1.key, .int .i64 x.1.kind, .int .u64 x.1.num, .string x.1.text, .slice x.2.1 x.1.kids.length x.2.2] 54)
        replace kA := Hd.mk (kA.out.ext hxb.out)
        replace kR := Hd.mk (kR.out.ext hxb.out)
        replace kx := Hd.mk (kx.out.trans hxb.out)
        replace hrow := Hd.mk (hrow.out.ext hxb.out)
        replace hrt := Hd.mk (fun z hz => (hrt.out z hz).ext hxb.out)
        replace hrec := Hd.mk (fun W (hx : Ext _ W) => hrec.out W (hxb.out.trans hx))
        replace hgl := Hd.mk (Nat.lt_of_lt_of_le hgl.out hxb.out.size)
        clear e0 e1 e2 e3 e4 e5 hxb hrx
        generalize wr.heap.size = pB at *
        generalize wr.alloc _ = V at *
        refine Flow.wp_region_flow_l (fun qq => match qq with
          | 15 => SP.eq (.pointer (some ⟨p, 5, none⟩))
          | 16 => SP.eq (.slice (some ⟨g, 0, none⟩) t.kids.length kc)
          | 17 => SP.eq (.int .i64 (j : Nat))
          | 18 => SP.eq (.agg #[.string x.1.name, .string x.1.key, .int .i64 x.1.kind, .int .u64 x.1.num, .string x.1.text, .slice x.2.1 x.1.kids.length x.2.2])
          | 19 => spTF y1 V.heap.size
          | 20 => SP.eq (.pointer (some ⟨g, j * 6, none⟩))
          | _ => SP.any) 6 (by kernel_rfl) 26 rfl (by kernel_rfl) ?_ ?_
        · skip
          refine ⟨?_, ?_, ?_, ?_, ?_, ?_, trivial⟩
          · intro act W2 hk
            refine Flow.does_intro rfl (fun Kq hK => ?_)
            have e1 : act.tmps[1]?.getD undef = .pointer (some ⟨p, 0, none⟩) := hk.o 1 (by kernel_rfl)
            clear hk
            go_simp
            exact hK _ _ (Ext.refl _) (fun d hd => by cases hd; rfl)
          · intro act W2 hk
            refine Flow.does_intro rfl (fun Kq hK => ?_)
            have e15 : act.tmps[15]?.getD undef = .pointer (some ⟨p, 5, none⟩) := hk.v 15 (by kernel_rfl)
            have g := ((kA.out).ext ((Ext.drew V).trans hk.ext)).cell
            clear hk
            go_simp
            exact hK _ _ (Ext.refl _) (fun d hd => by cases hd; rfl)
          · intro act W2 hk
            refine Flow.does_intro rfl (fun Kq hK => ?_)
            have e3 : act.tmps[3]?.getD undef = .int .i64 (j : Nat) := hk.o 3 (by kernel_rfl)
            clear hk
            go_simp
            exact hK _ _ (Ext.refl _) (fun d hd => by cases hd; rfl)
          · intro act W2 hk
            refine Flow.does_intro rfl (fun Kq hK => ?_)
            have e4 : act.tmps[4]?.getD undef = .pointer (some ⟨pB, 0, none⟩) := hk.o 4 (by kernel_rfl)
            have g := ((kB.out).ext ((Ext.drew V).trans hk.ext)).cell
            clear hk
            go_simp
            exact hK _ _ (Ext.refl _) (fun d hd => by cases hd; rfl)
          · intro act W2 hk
            refine Flow.does_intro rfl (fun Kq hK => ?_)
            have e18 : act.tmps[18]?.getD undef = .agg #[.string x.1.name, .string x.1.key, .int .i64 x.1.kind, .int .u64 x.1.num, .string x.1.text, .slice x.2.1 x.1.kids.length x.2.2] := hk.v 18 (by kernel_rfl)
            have hx0 := Hd.mk ((Ext.drew V).trans hk.ext)
            have hsz0 := hx0.out.size
            clear hk
            go_simp
            refine Calls.mono (hrec.out _ hx0.out) ?_
            rintro e W3 ⟨_, rfl, c9, rfl, hr9, hx⟩
            exact hK _ _ hx (fun d hd => by cases hd; exact ⟨c9, rfl, hr9.mono (fun b _ hb => Nat.le_trans hsz0 hb)⟩)
          · intro act W2 hk
            refine Flow.does_intro rfl (fun Kq hK => ?_)
            have e16 : act.tmps[16]?.getD undef = .slice (some ⟨g, 0, none⟩) t.kids.length kc := hk.v 16 (by kernel_rfl)
            have e17 : act.tmps[17]?.getD undef = .int .i64 (j : Nat) := hk.v 17 (by kernel_rfl)
            have hlt2 := hlt0
            clear hk
            go_simp
            exact hK _ _ (Ext.refl _) (fun d hd => by cases hd; rfl)
        · intro act W2 he
          have hxW2 := Hd.mk ((Ext.drew V).trans he.ext)
          obtain ⟨us, hA, hF⟩ := he.out [15, 16, 17, 18, 19, 20] (by kernel_rfl)
          simp only [Flow.fillL, List.contains_cons, List.contains_nil, Nat.reduceBEq, Bool.or_false, Bool.false_or, Bool.or_true, Bool.true_or, ↓reduceIte, Nat.reduceAdd, Bool.false_eq_true] at hA
          subst hA
          have f19 : (spTF y1 V.heap.size).p (us 19) W2 := hF 19 (by simp)
          have f20 : us 20 = .pointer (some ⟨g, j * 6, none⟩) := hF 20 (by simp)
          clear hF he
          rw [f20]
          clear f20
          obtain ⟨c9, ec, hr9⟩ := (f19 : (spTF _ _).p _ _)
          generalize us 15 = u15 at *
          generalize us 16 = u16 at *
          generalize us 17 = u17 at *
          generalize us 18 = u18 at *
          generalize us 19 = u19 at *
          subst ec
          obtain ⟨K2, kc2, rfl, _⟩ := hr9.row
          replace hr9 := Hd.mk hr9
          replace hrow := Hd.mk (hrow.out.ext hxW2.out)
          replace kA := Hd.mk (kA.out.ext hxW2.out)
          replace kR := Hd.mk (kR.out.ext hxW2.out)
          replace kx := Hd.mk (kx.out.trans hxW2.out)
          replace hrt := Hd.mk (fun z hz => (hrt.out z hz).ext hxW2.out)
          obtain ⟨v0, v1, v2, v3, v4, v5, z0, z1, z2, z3, z4, z5⟩ := rowI_old hrow.out hjl.out
          have hfr := hrow.out.free
          have hst := Hd.mk (rowI_store hrow.out hjl.out (y1, K2, kc2))
          simp only [cT]
          refine (show wpList _ _ _ (⟨none, .store 54 (.tmp 20) (.tmp 19), _, _, _, none⟩ :: []) _ _ from ?_)
          clear hrec kB hxW2
          go_wp2_with fail
          go_roundg (t.kids.length + 1 - (j + 1))
          case measure => have := hq.out; omega
          case rel => exact ⟨j + 1, by omega, ⟨rfl⟩, by go_num, l.set j (y1, K2, kc2), ⟨by rw [map_set_fst, hI.out]; exact hnx.out⟩, ⟨hst.out.1⟩, ⟨fun z hz => by
            rcases List.mem_or_eq_of_mem_set hz with hz | hz
            · exact (hrt.out z hz).upd hst.out.2 (fun h => h.1 rfl)
            · subst hz; exact (hr9.out.mono (S' := fun b => b ≠ g ∧ p + 2 ≤ b) (fun b _ hb => by have := hgl.out; have := hgp.out; exact ⟨by omega, by omega⟩)).upd hst.out.2 (fun h => h.1 rfl)⟩, ⟨hst.out.2.blk (by have := hgp.out; omega) kA.out⟩, ⟨hst.out.2.blk (by have := hgp.out; omega) kR.out⟩, ⟨Below.trans kx.out (hst.out.2.below (by have := hgp.out; rw [hp.out]; omega))⟩⟩
      · have hjl : j = t.kids.length := by omega
        have hI2 := hI.out
        rw [hjl, List.take_length, List.drop_length, List.append_nil] at hI2
        have hge : ¬ (j : Int) < (t.kids.length : Int) := by omega
        have gA := kA.out.cell
        have hll2 := hll.out.symm
        have hc := Hd.mk (sort_func L hL H.out l sp g kc t.kids.length wr hrow.out hll2 hkc (by omega))
        clear hll2 hjl
        replace hI2 := Hd.mk hI2
        go_wp2_with fail
        refine Calls.mono hc.out ?_
        rintro e w3 ⟨rfl, hrow3, hgr3⟩
        have kA3 := Hd.mk (show Blk w3 p _ 54 from (hgr3.block p kA.out.lt (by have := hgp.out; intro h; injection h with h; omega)).trans kA.out)
        have kR3 := Hd.mk (show Blk w3 (p + 1) _ 54 from (hgr3.block (p + 1) kR.out.lt (by have := hgp.out; intro h; injection h with h; omega)).trans kR.out)
        have kx3 := Hd.mk (show Ext w w3 from Below.grown kx.out hgr3 (by have := kx.out.size; exact this) (fun k hk => by injection hk with hk; have := hgp.out; rw [hp.out]; omega))
        have hmem := fun x (hx : x ∈ isortG ltI l) => hrt.out x ((isortG_srt l).2.symm.mem hx)
        have hrt3 : ∀ x ∈ isortG ltI l, RF (fun b => b ≠ g ∧ p + 2 ≤ b) w3 x.1 (cI x) := fun x hx => RF.keep (hmem x hx) (fun b hlt hb => hgr3.block b hlt (fun h => hb.1 (by injection h with h)))
        have hlen3 : (isortG ltI l).length = t.kids.length := by rw [isortG_len, hll.out]
        have hkids3 := Hd.mk (show (isortG ltI l).map (·.1) = isortG lessT (t.kids.map sortT) by rw [← hI2.out]; exact isortG_map (lt := ltI) (lt' := lessT) (fun x y => rfl) l)
        have hrr := Hd.mk (rrow_of_items (S := fun b => p + 2 ≤ b ∧ Fre w3 b) (kc := kc) hrow3 ⟨hgp.out, _, hrow3⟩ (by rw [hlen3]; exact hkc) (by rw [hlen3]; exact hkb) (fun x hx => (hrt3 x hx).mono (fun b _ hb => hb.2)))
        have hX := Hd.mk (show sortT t = t.wk ((isortG ltI l).map (·.1)) by rw [sortT_isort, hkids3.out])
        have hXl := Hd.mk (show ((isortG ltI l).map (·.1)).length = t.kids.length by rw [List.length_map, hlen3])
        clear hrt3 hrow3 hkids3 hlen3
        generalize (isortG ltI l).map (·.1) = X at *
        have hfin : Hd (∀ W', RRow (fun b => w.heap.size ≤ b ∧ Fre W' b) W' (some ⟨g, 0, none⟩) X kc → RF (fun b => w.heap.size ≤ b) W' (sortT t) [.string t.name, .string t.key, .int .i64 t.kind, .int .u64 t.num, .string t.text, .slice (some ⟨g, 0, none⟩) t.kids.length kc]) := ⟨fun W' h => by
          rw [hX.out]
          have h9 := RT.of_row (t := t.wk X) h
          have e9 : (t.wk X).kids.length = t.kids.length := hXl.out
          rw [e9] at h9
          exact h9⟩
        clear hgr3 hc hrow hrt hmem kA kR kx gA hI hI2
        have gA := kA3.out.cell
        have gR := kR3.out.cell
        have fR := kR3.out.free
        go_wp2_with fail
        have hu := Hd.mk ((((((Upd.setCell w3 ⟨p + 1, 0, none⟩ (.string t.name)).trans (Upd.setCell _ ⟨p + 1, 1, none⟩ (.string t.key))).trans (Upd.setCell _ ⟨p + 1, 2, none⟩ (.int .i64 t.kind))).trans (Upd.setCell _ ⟨p + 1, 3, none⟩ (.int .u64 t.num))).trans (Upd.setCell _ ⟨p + 1, 4, none⟩ (.string t.text))).trans (Upd.setCell _ ⟨p + 1, 5, none⟩ (.slice (some ⟨g, 0, none⟩) t.kids.length kc)))
        exact ret_box rfl (p + 1) _ 54 _ ((((((kR3.out.setCell 0 (.string t.name)).setCell 1 (.string t.key)).setCell 2 (.int .i64 t.kind)).setCell 3 (.int .u64 t.num)).setCell 4 (.string t.text)).setCell 5 (.slice (some ⟨g, 0, none⟩) t.kids.length kc)) rfl rfl Try.underlying54 rfl size54
          ⟨_, rfl, _, rfl, by
            exact hfin.out _ (hrr.out.keep (S' := fun b => w.heap.size ≤ b ∧ Fre _ b) (fun b off v hb hc => ⟨⟨by have := hb.1; rw [hp.out]; omega, hb.2.same (hu.out.block b (by have := hb.1; show b ≠ p + 1; omega))⟩, by rw [← hc]; exact World.cell?_of_block (hu.out.block b (by have := hb.1; show b ≠ p + 1; omega))⟩)), Below.trans kx3.out (hu.out.below (by rw [hp.out]; show p ≤ p + 1; omega))⟩
end Go.Proofs.Ytgkgedjmnbjalaa
set_option linter.unusedSimpArgs false
namespace Go.Proofs.Ytgkgedjmnbjalaa
open Go.RowKit Go.Sort
def Shp (v v' : Value) : Prop := v' = v ∨ (∃ x y, v = .string x ∧ v' = .string y) ∨ ∃ x y, v = .int .u64 x ∧ v' = .int .u64 y
theorem Shp.trans {a b c : Value} (h : Shp a b) (k : Shp b c) : Shp a c := by
  rcases h with rfl | ⟨x, y, rfl, rfl⟩ | ⟨x, y, rfl, rfl⟩
  · exact k
  · rcases k with rfl | ⟨x', y', h1, rfl⟩ | ⟨x', y', h1, rfl⟩
    · exact .inr (.inl ⟨_, _, rfl, rfl⟩)
    · exact .inr (.inl ⟨_, _, rfl, rfl⟩)
    · cases h1
  · rcases k with rfl | ⟨x', y', h1, rfl⟩ | ⟨x', y', h1, rfl⟩
    · exact .inr (.inr ⟨_, _, rfl, rfl⟩)
    · cases h1
    · exact .inr (.inr ⟨_, _, rfl, rfl⟩)
structure Touch (S : Nat → Prop) (w w' : World) : Prop where
  os : w'.os = w.os
  tape : w'.tape = w.tape
  output : w'.output = w.output
  size : w.heap.size ≤ w'.heap.size
  block : ∀ b, b < w.heap.size → ¬ S b → w'.heap[b]? = w.heap[b]?
  like : ∀ b off v, w.cell? ⟨b, off, none⟩ = some v → ∃ v', w'.cell? ⟨b, off, none⟩ = some v' ∧ Shp v v'
  free : ∀ b, Fre w b → Fre w' b
theorem Touch.of_ext {S : Nat → Prop} {w w' : World} (h : Ext w w') : Touch S w w' :=
  ⟨h.os, h.tape, h.output, h.size, fun b hb _ => h.block b hb, fun b off v hv => ⟨v, Ext.cell h hv, .inl rfl⟩, fun b hb => by obtain ⟨cs, hc⟩ := hb; exact ⟨cs, hc.ext h⟩⟩
theorem Touch.trans {S : Nat → Prop} {a b c : World} (h : Touch S a b) (k : Touch S b c) : Touch S a c :=
  ⟨k.os.trans h.os, k.tape.trans h.tape, k.output.trans h.output, Nat.le_trans h.size k.size, fun i hi hs => (k.block i (Nat.lt_of_lt_of_le hi h.size) hs).trans (h.block i hi hs),
   fun i off v hv => by obtain ⟨v1, h1, h2⟩ := h.like i off v hv; obtain ⟨v2, h3, h4⟩ := k.like i off v1 h1; exact ⟨v2, h3, h2.trans h4⟩, fun i hi => k.free i (h.free i hi)⟩
theorem Touch.set {S : Nat → Prop} {w : World} {b off : Nat} {v u : Value} (h : w.cell? ⟨b, off, none⟩ = some v) (hs : Shp v u) (hS : S b) : Touch S w (w.setCell ⟨b, off, none⟩ u) := by
  have hu := Upd.setCell w ⟨b, off, none⟩ u
  refine ⟨hu.os, hu.tape, hu.output, Nat.le_of_eq hu.size.symm, fun k _ hk => hu.block k (fun e => hk (by rw [e]; exact hS)), fun k o x hx => ?_, fun k hk => ?_⟩
  · by_cases he : (⟨k, o, none⟩ : Addr) = ⟨b, off, none⟩
    · rw [he] at hx ⊢
      rw [h] at hx
      cases hx
      exact ⟨u, World.cell?_setCell_same w _ _ h, hs⟩
    · exact ⟨x, (World.cell?_setCell_other w _ _ _ (fun e => he e.symm)).trans hx, .inl rfl⟩
  · obtain ⟨cs, hc⟩ := hk
    by_cases he : k = b
    · subst he; exact ⟨_, hc.setCell off u⟩
    · exact ⟨cs, hu.blk he hc⟩
theorem Blk.touch {S : Nat → Prop} {w w' : World} {g : Nat} {cs : List Value} {t : TypeId} (h : Blk w g cs t) (k : Touch S w w') (hs : ¬ S g) : Blk w' g cs t := (k.block g h.lt hs).trans h
theorem RT.touch {S S' : Nat → Prop} {w w' : World} {t : T} {c : List Value} (h : RT S' w t c) (k : Touch S w w') (hs : ∀ b, S' b → ¬ S b) : RT S' w' t c :=
  h.keep fun b off v hb hc => ⟨hb, by rw [← hc]; exact World.cell?_of_block (k.block b (World.block_lt_of_cell? w _ hc) (hs b hb))⟩
theorem Touch.below {S : Nat → Prop} {w w' : World} {B : Nat} (k : Touch S w w') (hB : B ≤ w.heap.size) (hs : ∀ b, b < B → ¬ S b) : Below B w w' :=
  ⟨k.os, k.tape, k.output, k.size, fun i hi => k.block i (Nat.lt_of_lt_of_le hi hB) (hs i hi)⟩
def SH (S : Nat → Prop) (w : World) : Nat → Option Addr → Nat → Prop
  | 0, _, _ => False
  | N + 1, K, n => n ≤ 1048576 ∧ ∀ i, i < n → ∃ (b off : Nat) (nm ky : ByteArray) (kd num : Int) (tx : ByteArray) (K' : Option Addr) (n' kc' : Nat),
      K = some ⟨b, off, none⟩ ∧ S b ∧ Fre w b ∧ n' ≤ kc' ∧ (K' = none → kc' = 0) ∧ (∀ j v, [Value.string nm, .string ky, .int .i64 kd, .int .u64 num, .string tx, .slice K' n' kc'][j]? = some v → w.cell? ⟨b, off + i * 6 + j, none⟩ = some v) ∧ SH S w N K' n'
theorem shp_str {x : ByteArray} {v : Value} (h : Shp (.string x) v) : ∃ y, v = .string y := by
  rcases h with rfl | ⟨_, y, _, rfl⟩ | ⟨_, _, h, _⟩
  · exact ⟨_, rfl⟩
  · exact ⟨_, rfl⟩
  · cases h
theorem shp_u64 {x : Int} {v : Value} (h : Shp (.int .u64 x) v) : ∃ y, v = .int .u64 y := by
  rcases h with rfl | ⟨_, _, h, _⟩ | ⟨_, y, _, rfl⟩
  · exact ⟨_, rfl⟩
  · cases h
  · exact ⟨_, rfl⟩
theorem shp_i64 {x : Int} {v : Value} (h : Shp (.int .i64 x) v) : v = .int .i64 x := by
  rcases h with rfl | ⟨_, _, h, _⟩ | ⟨_, _, h, _⟩
  · rfl
  · cases h
  · cases h
theorem shp_slice {K : Option Addr} {n c : Nat} {v : Value} (h : Shp (.slice K n c) v) : v = .slice K n c := by
  rcases h with rfl | ⟨_, _, h, _⟩ | ⟨_, _, h, _⟩
  · rfl
  · cases h
  · cases h
theorem SH.touch {S S1 : Nat → Prop} {w w' : World} (k : Touch S1 w w') : ∀ {N : Nat} {K : Option Addr} {n : Nat}, SH S w N K n → SH S w' N K n
  | 0, _, _, h => h
  | N + 1, K, n, h => ⟨h.1, fun i hi => by
    obtain ⟨b, off, nm, ky, kd, num, tx, K', n', kc', h1, h2, h3, h4, h5, h6, h7⟩ := h.2 i hi
    obtain ⟨v0, e0, s0⟩ := k.like _ _ _ (h6 0 _ rfl)
    obtain ⟨v1, e1, s1⟩ := k.like _ _ _ (h6 1 _ rfl)
    obtain ⟨v2, e2, s2⟩ := k.like _ _ _ (h6 2 _ rfl)
    obtain ⟨v3, e3, s3⟩ := k.like _ _ _ (h6 3 _ rfl)
    obtain ⟨v4, e4, s4⟩ := k.like _ _ _ (h6 4 _ rfl)
    obtain ⟨v5, e5, s5⟩ := k.like _ _ _ (h6 5 _ rfl)
    obtain ⟨y0, rfl⟩ := shp_str s0
    obtain ⟨y1, rfl⟩ := shp_str s1
    obtain rfl := shp_i64 s2
    obtain ⟨y3, rfl⟩ := shp_u64 s3
    obtain ⟨y4, rfl⟩ := shp_str s4
    obtain rfl := shp_slice s5
    refine ⟨b, off, y0, y1, kd, y3, y4, K', n', kc', h1, h2, k.free b h3, h4, h5, fun j v hv => ?_, SH.touch k h7⟩
    match j, hv with
    | 0, hv => cases hv; exact e0
    | 1, hv => cases hv; exact e1
    | 2, hv => cases hv; exact e2
    | 3, hv => cases hv; exact e3
    | 4, hv => cases hv; exact e4
    | 5, hv => cases hv; exact e5
    | j + 6, hv => simp at hv⟩
theorem RF.sh {S : Nat → Prop} {w : World} : ∀ {N : Nat} {t : T} {K : Option Addr} {kc : Nat}, t.deep ≤ N → RRow (fun b => S b ∧ Fre w b) w K t.kids kc → SH S w N K t.kids.length
  | 0, t, K, kc, hd, _ => by rw [t.deep_eq] at hd; omega
  | N + 1, t, K, kc, hd, h => ⟨h.len, fun i hi => by
    have hk := List.getElem?_eq_getElem hi
    generalize t.kids[i] = k at hk
    obtain ⟨b, off, c, h1, h2, h3, h4⟩ := h.kid i k hk
    obtain ⟨K', kc', rfl, hr⟩ := h3.row
    exact ⟨b, off, k.name, k.key, k.kind, k.num, k.text, K', k.kids.length, kc', h1, h2.1, h2.2, hr.cap, hr.nul, h4, RF.sh (by have := kid_deep hk; omega) hr⟩⟩
end Go.Proofs.Ytgkgedjmnbjalaa
set_option linter.unusedSimpArgs false
namespace Go.Proofs.Ytgkgedjmnbjalaa
open Go.RowKit Go.Sort
def Rb (B : Nat) (w w' : World) : Prop := (w'.os = w.os ∧ w'.tape = w.tape ∧ w'.output = w.output ∧ w.heap.size ≤ w'.heap.size) ∧ (∀ k, k < B → k < w.heap.size → w'.heap[k]? = w.heap[k]?) ∧ ∀ D c, Blk w D c 54 → c.length = 6 → ∃ c', Blk w' D c' 54 ∧ c'.length = 6
theorem rb_ext {B : Nat} {w w' : World} (h : Ext w w') : Rb B w w' := ⟨⟨h.os, h.tape, h.output, h.size⟩, fun k _ hk => h.block k hk, fun D c hD hc => ⟨c, hD.ext h, hc⟩⟩
theorem rb_trans {B : Nat} {a b c : World} (h : Rb B a b) (k : Rb B b c) : Rb B a c :=
  ⟨⟨k.1.1.trans h.1.1, k.1.2.1.trans h.1.2.1, k.1.2.2.1.trans h.1.2.2.1, Nat.le_trans h.1.2.2.2 k.1.2.2.2⟩, fun i hi hi2 => (k.2.1 i hi (Nat.lt_of_lt_of_le hi2 h.1.2.2.2)).trans (h.2.1 i hi hi2), fun D d hD hd => by
    obtain ⟨d', h1, h2⟩ := h.2.2 D d hD hd
    exact k.2.2 D d' h1 h2⟩
theorem rb_below {w w' : World} (h : Rb w.heap.size w w') : Ext w w' := ⟨h.1.1, h.1.2.1, h.1.2.2.1, h.1.2.2.2, fun k hk => h.2.1 k hk hk⟩
theorem rb_upd {B D : Nat} {w w' : World} (hB : B ≤ D) (hu : Upd w w' D) (h6 : ∃ c, Blk w' D c 54 ∧ c.length = 6) : Rb B w w' :=
  ⟨⟨hu.os, hu.tape, hu.output, Nat.le_of_eq hu.size.symm⟩, fun k hk _ => hu.block k (by omega), fun E c hE hc => by
    by_cases h : E = D
    · subst h; exact h6
    · exact ⟨c, hu.blk h hE, hc⟩⟩
def spBoxE (B : Nat) : SP := ⟨fun v w => ∃ D, v = .pointer (some ⟨D, 0, none⟩) ∧ B ≤ D ∧ ∃ c, Blk w D c 54 ∧ c.length = 6, fun _ _ _ h ⟨D, e, h1, c, hb, hc⟩ => ⟨D, e, h1, c, hb.ext h, hc⟩⟩
theorem rt_zero (S : Nat → Prop) (w : World) : RT S w zeroT [.string ⟨#[]⟩, .string ⟨#[]⟩, .int .i64 0, .int .u64 0, .string ⟨#[]⟩, .slice none 0 0] := (ot_zero S w).rt
end Go.Proofs.Ytgkgedjmnbjalaa

/- step, leaf, Same of the program's trees.
   Conditions: none. -/
import Derived.Test.YtgkgedjmnbjalaaTE
set_option linter.unusedSimpArgs false
namespace Go.Proofs.Ytgkgedjmnbjalaa
open Go.RowKit Go.Sort

set_option maxRecDepth 100000 in
set_option maxHeartbeats 1000000 in
theorem tree_step (a : T) (K1 : Option Addr) (n1 c1 : Nat) (w : World) :
    Calls Try.prog 118 #[.agg (cT a.name a.key a.kind a.num a.text K1 n1 c1).toArray] w fun e w' => e = .returned (.agg #[.string a.name, .string a.key]) ∧ Ext w w' := by
  simp only [cT]
  go_enter Try.func118, Try.ntmps118
  go_wp2_with fail
  exact ret_box rfl (w.heap.size + 1) _ 65 _ (Blk.new2 w _ _ 65) rfl rfl Try.underlying65 rfl size65 ⟨rfl, (Ext.alloc _ _).trans (Ext.alloc _ _)⟩

theorem toList_ne {a b : ByteArray} (h : a ≠ b) : ¬ a.toList = b.toList := fun e => h (of_decide_eq_true (by rw [← str_eq, e]; exact beq_self_eq_true _))
theorem not3 {A B : Prop} {t t' : ByteArray} (h : ¬ (A ∧ B ∧ t = t')) : ¬ A ∨ (A ∧ ¬ B) ∨ (A ∧ B ∧ ¬ t.toList = t'.toList) := by
  by_cases a : A
  · by_cases b : B
    · exact .inr (.inr ⟨a, b, toList_ne fun e => h ⟨a, b, e⟩⟩)
    · exact .inr (.inl ⟨a, b⟩)
  · exact .inl a
theorem not2 {n n' k k' : ByteArray} (h : ¬ (n = n' ∧ k = k')) : ¬ n.toList = n'.toList ∨ (n.toList = n'.toList ∧ ¬ k.toList = k'.toList) := by
  by_cases a : n = n'
  · exact .inr ⟨by rw [a], toList_ne fun e => h ⟨a, e⟩⟩
  · exact .inl (toList_ne a)

set_option maxHeartbeats 1000000 in
theorem diff_leaf (a : T) (K1 : Option Addr) (n1 c1 : Nat) (w : World) :
    Calls Try.prog 100 #[.agg (cT a.name a.key a.kind a.num a.text K1 n1 c1).toArray] w fun e w' => e = .returned (.bool (a.kind != 0)) ∧ Ext w w' := by
  simp only [cT]
  go_enter Try.func100, Try.ntmps100
  go_wp2_with fail
  go_ret
  exact ⟨rfl, Ext.alloc _ _⟩

/-- What Same tells of any two trees of a depth. -/
def SameAt (N : Nat) : Prop := ∀ (a b : T) (S : Nat → Prop) (w : World) (c d : List Value), a.deep ≤ N → RT S w a c → RT S w b d →
    Calls Try.prog 65 #[.agg c.toArray, .agg d.toArray] w fun e w' => e = .returned (.bool (sameT a b)) ∧ Ext w w'

set_option maxRecDepth 100000 in
set_option maxHeartbeats 2000000 in
theorem nodes_equal (N : Nat) (ih0 : SameAt N) (l l' : List T) (S : Nat → Prop) (w : World) (K1 K2 : Option Addr) (c1 c2 : Nat) (hd : deepL l ≤ N) (hr1 : RRow S w K1 l c1) (hr2 : RRow S w K2 l' c2) :
    Calls Try.prog 119 #[.slice K1 l.length c1, .slice K2 l'.length c2, .func (.func 65) #[] #[]] w fun e w' => e = .returned (.bool (sameL l l')) ∧ Ext w w' := by
  have kr1 := Hd.mk hr1
  have kr2 := Hd.mk hr2
  have hl2 := hr2.len
  have hl1 := hr1.len
  have ih := Hd.mk ih0
  have hd := Hd.mk hd
  clear hr1 hr2 ih0
  generalize hr : sameL l l' = r
  by_cases h6 : l.length = l'.length
  · rw [h6]
    replace h6 := Hd.mk h6
    clear hl1
    replace hr := Hd.mk hr.symm
    go_enter Try.func119, Try.ntmps119
    go_wp2_with fail
    go_loopg [17] (l'.length + 1) (fun q i wr => ∃ j : Nat, j ≤ l'.length ∧ Hd (q = l'.length + 1 - j) ∧ i = .int .i64 j ∧ Hd (r = sameL (l.drop j) (l'.drop j)) ∧ Hd (Ext w wr))
    case atStart => exact ⟨0, by omega, ⟨by omega⟩, rfl, hr, ⟨Ext.refl _⟩⟩
    case round =>
    obtain ⟨j, hj, hq, rfl, hI, hxr⟩ := hrel
    by_cases hlt : j < l'.length
    · have hlt1 : j < l.length := by have := h6.out; omega
      have hx1 := List.getElem?_eq_getElem hlt1
      have hx2 := List.getElem?_eq_getElem hlt
      generalize l[j] = x at hx1
      generalize l'[j] = y at hx2
      obtain ⟨b1, o1, ck, rfl, _, hrk, hck⟩ := kr1.out.kid j x hx1
      obtain ⟨b2, o2, dk, rfl, _, hrd, hdk⟩ := kr2.out.kid j y hx2
      obtain ⟨K3, c3, rfl, _⟩ := hrk.row
      obtain ⟨K4, c4, rfl, _⟩ := hrd.row
      have hcall := Hd.mk (fun W' (h : Ext w W') => ih.out x y S W' _ _ (by have := deepL_mem hx1; have := hd.out; omega) (hrk.ext h) (hrd.ext h))
      have hdrop := Hd.mk (sameL_drop hx1 hx2)
      obtain ⟨e0, e1, e2, e3, e4, e5⟩ := six hxr.out hck
      obtain ⟨f0, f1, f2, f3, f4, f5⟩ := six hxr.out hdk
      have lt1 := World.block_lt_of_cell? wr _ e0
      have lt2 := World.block_lt_of_cell? wr _ f0
      clear hck hdk hrk hrd hx1 hx2
      simp only [cT] at hcall
      go_wp2_with fail
      have hx2 := Hd.mk (hxr.out.trans ((Ext.alloc wr (.cells #[.string x.name, .string x.key, .int .i64 x.kind, .int .u64 x.num, .string x.text, .slice K3 x.kids.length c3] 54)).trans (Ext.alloc _ (.cells #[.string y.name, .string y.key, .int .i64 y.kind, .int .u64 y.num, .string y.text, .slice K4 y.kids.length c4] 54))))
      refine Calls.mono (hcall.out _ hx2.out) ?_
      rintro e w2 ⟨rfl, hx3⟩
      clear hcall e0 e1 e2 e3 e4 e5 f0 f1 f2 f3 f4 f5
      have hxr3 := Hd.mk (hx2.out.trans hx3)
      clear hx3
      cases hs : sameT x y with
      | true =>
        go_wp2_with fail
        go_roundg (l'.length + 1 - (j + 1))
        case measure => have := hq.out; omega
        case rel => exact ⟨j + 1, by omega, ⟨rfl⟩, by go_num, ⟨by rw [hI.out, hdrop.out, hs]; rfl⟩, hxr3⟩
      | false =>
        have hr0 : r = false := by rw [hI.out, hdrop.out, hs]; rfl
        subst hr0
        go_wp2_with fail
        go_ret
        exact ⟨rfl, hxr3.out⟩
    · have hjl : j = l'.length := by omega
      subst hjl
      have hr0 : r = true := by rw [hI.out, ← h6.out, List.drop_length, h6.out, List.drop_length]; rfl
      subst hr0
      go_wp2_with fail
      go_ret
      exact ⟨rfl, hxr.out⟩
  · have hr0 : r = false := by
      cases hs : r with
      | false => rfl
      | true => rw [hs] at hr; exact absurd (sameL_len _ _ hr) h6
    subst hr0
    have h6' : ((l.length : Int) != (l'.length : Int)) = true := by rw [bne_iff_ne]; omega
    clear hr
    go_enter Try.func119, Try.ntmps119
    go_wp2_with fail
    go_ret
    exact ⟨rfl, Ext.refl _⟩

set_option maxRecDepth 100000 in
set_option maxHeartbeats 4000000 in
theorem tree_same : ∀ (N : Nat), SameAt N
  | 0 => fun a b S w c d hn _ _ => by rw [a.deep_eq] at hn; omega
  | N + 1 => by
    rintro ⟨n, k, d, m, t, l⟩ ⟨n', k', d', m', t', l'⟩ S w c d2 hn ha hb
    obtain ⟨K1, c1, rfl, hr1⟩ := ha.row
    obtain ⟨K2, c2, rfl, hr2⟩ := hb.row
    have hs1 := Hd.mk (fun w => tree_step (.mk n k d m t l) K1 l.length c1 w)
    have hs2 := Hd.mk (fun w => tree_step (.mk n' k' d' m' t' l') K2 l'.length c2 w)
    simp only [T.name, T.key, T.kind, T.num, T.text, T.kids] at hr1 hr2 hs1 hs2 ⊢
    have heq := Hd.mk (fun W (h : Ext w W) => nodes_equal N (tree_same N) l l' S W K1 K2 c1 c2 (by rw [T.deep_eq] at hn; simp only [T.kids] at hn; omega) (hr1.ext h) (hr2.ext h))
    have hsame := Hd.mk (sameT_mk n k d m t l n' k' d' m' t' l')
    clear hr1 hr2 ha hb hn
    generalize sameT _ _ = r at *
    simp only [cT] at hs1 hs2 ⊢
    have sN := str_eq n n'
    have sK := str_eq k k'
    have sT := str_eq t t'
    go_enter Try.func65, Try.ntmps65
    go_wp2_with fail
    have kx := Hd.mk ((Ext.alloc w (.cells #[.string n, .string k, .int .i64 d, .int .u64 m, .string t, .slice K1 l.length c1] 54)).trans (Ext.alloc _ (.cells #[.string n', .string k', .int .i64 d', .int .u64 m', .string t', .slice K2 l'.length c2] 54)))
    have kA := Hd.mk ((Blk.new w #[.string n, .string k, .int .i64 d, .int .u64 m, .string t, .slice K1 l.length c1] 54).alloc (.cells #[.string n', .string k', .int .i64 d', .int .u64 m', .string t', .slice K2 l'.length c2] 54))
    have kB := Hd.mk (Blk.new2 w (.cells #[.string n, .string k, .int .i64 d, .int .u64 m, .string t, .slice K1 l.length c1] 54) #[.string n', .string k', .int .i64 d', .int .u64 m', .string t', .slice K2 l'.length c2] 54)
    generalize w.heap.size = pA at *
    generalize (w.alloc _).alloc _ = W at *
    by_cases h1 : n = n' ∧ k = k'
    · obtain ⟨rfl, rfl⟩ := h1
      by_cases h2 : d = d' ∧ m = m' ∧ t = t'
      · obtain ⟨rfl, rfl, rfl⟩ := h2
        have hr : r = sameL l l' := by rw [hsame.out]; simp
        replace hr := Hd.mk hr
        clear sN sK sT hsame
        refine Flow.wp_region_flow_l (fun qq => match qq with
          | 5 => SP.eq (.agg #[.string n, .string k, .int .i64 d, .int .u64 m, .string t, .slice K1 l.length c1])
          | 6 => SP.eq (.agg #[.string n, .string k])
          | 7 => SP.eq (.agg #[.string n, .string k, .int .i64 d, .int .u64 m, .string t, .slice K2 l'.length c2])
          | 8 => SP.eq (.agg #[.string n, .string k])
          | 9 => SP.eq (.bool true)
          | 10 => SP.eq (.bool true)
          | 11 => SP.eq (.pointer (some ⟨pA, 2, none⟩))
          | 12 => SP.eq (.agg #[.int .i64 d, .int .u64 m, .string t])
          | 13 => SP.eq (.pointer (some ⟨(pA + 1), 2, none⟩))
          | 14 => SP.eq (.agg #[.int .i64 d, .int .u64 m, .string t])
          | 15 => SP.eq (.bool true)
          | 16 => SP.eq (.bool true)
          | 17 => SP.eq (.bool true)
          | 18 => SP.eq (.pointer (some ⟨pA, 5, none⟩))
          | 19 => SP.eq (.slice K1 l.length c1)
          | 20 => SP.eq (.pointer (some ⟨(pA + 1), 5, none⟩))
          | 21 => SP.eq (.slice K2 l'.length c2)
          | 22 => SP.eq (.bool r)
          | 23 => SP.eq (.bool r)
          | 4 => SP.eq (.bool r)
          | _ => SP.any) 20 (by kernel_rfl) 24 rfl (by kernel_rfl) ?_ ?_
        · skip
          refine ⟨?_, ?_, ?_, ?_, ?_, ?_, ?_, ?_, ?_, ?_, ?_, ?_, ?_, ?_, ?_, ?_, ?_, ?_, ?_, ?_, trivial⟩
          · intro act W2 hk
            refine Flow.does_intro rfl (fun K hK => ?_)
            have e2 : act.tmps[2]?.getD undef = .pointer (some ⟨pA, 0, none⟩) := hk.o 2 (by kernel_rfl)
            have g := ((kA.out).ext ((Ext.drew W).trans hk.ext)).cell
            clear hk
            go_simp
            exact hK _ _ (Ext.refl _) (fun d hd => by cases hd; rfl)
          · intro act W2 hk
            refine Flow.does_intro rfl (fun K hK => ?_)
            have e5 : act.tmps[5]?.getD undef = .agg #[.string n, .string k, .int .i64 d, .int .u64 m, .string t, .slice K1 l.length c1] := hk.v 5 (by kernel_rfl)
            clear hk
            go_simp
            refine Calls.mono (hs1.out _) ?_
            rintro e W3 ⟨rfl, hx⟩
            exact hK _ _ hx (fun d hd => by cases hd; rfl)
          · intro act W2 hk
            refine Flow.does_intro rfl (fun K hK => ?_)
            have e3 : act.tmps[3]?.getD undef = .pointer (some ⟨(pA + 1), 0, none⟩) := hk.o 3 (by kernel_rfl)
            have g := ((kB.out).ext ((Ext.drew W).trans hk.ext)).cell
            clear hk
            go_simp
            exact hK _ _ (Ext.refl _) (fun d hd => by cases hd; rfl)
          · intro act W2 hk
            refine Flow.does_intro rfl (fun K hK => ?_)
            have e7 : act.tmps[7]?.getD undef = .agg #[.string n, .string k, .int .i64 d, .int .u64 m, .string t, .slice K2 l'.length c2] := hk.v 7 (by kernel_rfl)
            clear hk
            go_simp
            refine Calls.mono (hs2.out _) ?_
            rintro e W3 ⟨rfl, hx⟩
            exact hK _ _ hx (fun d hd => by cases hd; rfl)
          · intro act W2 hk
            refine Flow.does_intro rfl (fun K hK => ?_)
            have e6 : act.tmps[6]?.getD undef = .agg #[.string n, .string k] := hk.v 6 (by kernel_rfl)
            have e8 : act.tmps[8]?.getD undef = .agg #[.string n, .string k] := hk.v 8 (by kernel_rfl)
            clear hk
            go_simp
            exact hK _ _ (Ext.refl _) (fun d hd => by cases hd; rfl)
          · intro act W2 hk
            refine Flow.does_intro rfl (fun K hK => ?_)
            have e9 : act.tmps[9]?.getD undef = .bool true := hk.v 9 (by kernel_rfl)
            clear hk
            go_simp
            exact hK _ _ (Ext.refl _) (fun d hd => by cases hd; rfl)
          · intro act W2 hk
            have eg : act.tmps[10]?.getD undef = .bool true := hk.v 10 (by kernel_rfl)
            refine Flow.does_intro (wanted_yes rfl rfl eg) (fun K hK => ?_)
            clear eg
            have e2 : act.tmps[2]?.getD undef = .pointer (some ⟨pA, 0, none⟩) := hk.o 2 (by kernel_rfl)
            clear hk
            go_simp
            exact hK _ _ (Ext.refl _) (fun d hd => by cases hd; rfl)
          · intro act W2 hk
            have eg : act.tmps[10]?.getD undef = .bool true := hk.v 10 (by kernel_rfl)
            refine Flow.does_intro (wanted_yes rfl rfl eg) (fun K hK => ?_)
            clear eg
            have e11 : act.tmps[11]?.getD undef = .pointer (some ⟨pA, 2, none⟩) := hk.v 11 (by kernel_rfl)
            have g := ((kA.out).ext ((Ext.drew W).trans hk.ext)).cell
            clear hk
            go_simp
            exact hK _ _ (Ext.refl _) (fun d hd => by cases hd; rfl)
          · intro act W2 hk
            have eg : act.tmps[10]?.getD undef = .bool true := hk.v 10 (by kernel_rfl)
            refine Flow.does_intro (wanted_yes rfl rfl eg) (fun K hK => ?_)
            clear eg
            have e3 : act.tmps[3]?.getD undef = .pointer (some ⟨(pA + 1), 0, none⟩) := hk.o 3 (by kernel_rfl)
            clear hk
            go_simp
            exact hK _ _ (Ext.refl _) (fun d hd => by cases hd; rfl)
          · intro act W2 hk
            have eg : act.tmps[10]?.getD undef = .bool true := hk.v 10 (by kernel_rfl)
            refine Flow.does_intro (wanted_yes rfl rfl eg) (fun K hK => ?_)
            clear eg
            have e13 : act.tmps[13]?.getD undef = .pointer (some ⟨(pA + 1), 2, none⟩) := hk.v 13 (by kernel_rfl)
            have g := ((kB.out).ext ((Ext.drew W).trans hk.ext)).cell
            clear hk
            go_simp
            exact hK _ _ (Ext.refl _) (fun d hd => by cases hd; rfl)
          · intro act W2 hk
            have eg : act.tmps[10]?.getD undef = .bool true := hk.v 10 (by kernel_rfl)
            refine Flow.does_intro (wanted_yes rfl rfl eg) (fun K hK => ?_)
            clear eg
            have e12 : act.tmps[12]?.getD undef = .agg #[.int .i64 d, .int .u64 m, .string t] := hk.v 12 (by kernel_rfl)
            have e14 : act.tmps[14]?.getD undef = .agg #[.int .i64 d, .int .u64 m, .string t] := hk.v 14 (by kernel_rfl)
            clear hk
            go_simp
            exact hK _ _ (Ext.refl _) (fun d hd => by cases hd; rfl)
          · intro act W2 hk
            refine Flow.does_intro rfl (fun K hK => ?_)
            have e10 : act.tmps[10]?.getD undef = .bool true := hk.v 10 (by kernel_rfl)
            have e15 : act.tmps[15]?.getD undef = .bool true := hk.v 15 (by kernel_rfl)
            clear hk
            go_simp
            exact hK _ _ (Ext.refl _) (fun d hd => by cases hd; rfl)
          · intro act W2 hk
            refine Flow.does_intro rfl (fun K hK => ?_)
            have e16 : act.tmps[16]?.getD undef = .bool true := hk.v 16 (by kernel_rfl)
            clear hk
            go_simp
            exact hK _ _ (Ext.refl _) (fun d hd => by cases hd; rfl)
          · intro act W2 hk
            have eg : act.tmps[17]?.getD undef = .bool true := hk.v 17 (by kernel_rfl)
            refine Flow.does_intro (wanted_yes rfl rfl eg) (fun K hK => ?_)
            clear eg
            have e2 : act.tmps[2]?.getD undef = .pointer (some ⟨pA, 0, none⟩) := hk.o 2 (by kernel_rfl)
            clear hk
            go_simp
            exact hK _ _ (Ext.refl _) (fun d hd => by cases hd; rfl)
          · intro act W2 hk
            have eg : act.tmps[17]?.getD undef = .bool true := hk.v 17 (by kernel_rfl)
            refine Flow.does_intro (wanted_yes rfl rfl eg) (fun K hK => ?_)
            clear eg
            have e18 : act.tmps[18]?.getD undef = .pointer (some ⟨pA, 5, none⟩) := hk.v 18 (by kernel_rfl)
            have g := ((kA.out).ext ((Ext.drew W).trans hk.ext)).cell
            clear hk
            go_simp
            exact hK _ _ (Ext.refl _) (fun d hd => by cases hd; rfl)
          · intro act W2 hk
            have eg : act.tmps[17]?.getD undef = .bool true := hk.v 17 (by kernel_rfl)
            refine Flow.does_intro (wanted_yes rfl rfl eg) (fun K hK => ?_)
            clear eg
            have e3 : act.tmps[3]?.getD undef = .pointer (some ⟨(pA + 1), 0, none⟩) := hk.o 3 (by kernel_rfl)
            clear hk
            go_simp
            exact hK _ _ (Ext.refl _) (fun d hd => by cases hd; rfl)
          · intro act W2 hk
            have eg : act.tmps[17]?.getD undef = .bool true := hk.v 17 (by kernel_rfl)
            refine Flow.does_intro (wanted_yes rfl rfl eg) (fun K hK => ?_)
            clear eg
            have e20 : act.tmps[20]?.getD undef = .pointer (some ⟨(pA + 1), 5, none⟩) := hk.v 20 (by kernel_rfl)
            have g := ((kB.out).ext ((Ext.drew W).trans hk.ext)).cell
            clear hk
            go_simp
            exact hK _ _ (Ext.refl _) (fun d hd => by cases hd; rfl)
          · intro act W2 hk
            have eg : act.tmps[17]?.getD undef = .bool true := hk.v 17 (by kernel_rfl)
            refine Flow.does_intro (wanted_yes rfl rfl eg) (fun K hK => ?_)
            clear eg
            have e19 : act.tmps[19]?.getD undef = .slice K1 l.length c1 := hk.v 19 (by kernel_rfl)
            have e21 : act.tmps[21]?.getD undef = .slice K2 l'.length c2 := hk.v 21 (by kernel_rfl)
            have hx0 := Hd.mk ((Ext.drew W).trans hk.ext)
            clear hk
            go_simp
            refine Calls.mono (heq.out _ (kx.out.trans hx0.out)) ?_
            rintro e W3 ⟨rfl, hx⟩
            exact hK _ _ hx (fun d hd => by cases hd; exact congrArg Value.bool hr.out.symm)
          · intro act W2 hk
            refine Flow.does_intro rfl (fun K hK => ?_)
            have e17 : act.tmps[17]?.getD undef = .bool true := hk.v 17 (by kernel_rfl)
            have e22 : act.tmps[22]?.getD undef = .bool r := hk.v 22 (by kernel_rfl)
            clear hk
            go_simp
            exact hK _ _ (Ext.refl _) (fun d hd => by cases hd; rfl)
          · intro act W2 hk
            refine Flow.does_intro rfl (fun K hK => ?_)
            have e23 : act.tmps[23]?.getD undef = .bool r := hk.v 23 (by kernel_rfl)
            clear hk
            go_simp
            exact hK _ _ (Ext.refl _) (fun d hd => by cases hd; rfl)
        · intro act W2 he
          have hxW2 := Hd.mk ((Ext.drew W).trans he.ext)
          obtain ⟨us, hA, hF⟩ := he.out [5, 6, 7, 8, 9, 10, 11, 12, 13, 14, 15, 16, 17, 18, 19, 20, 21, 22, 23, 4] (by kernel_rfl)
          simp only [Flow.fillL, List.contains_cons, List.contains_nil, Nat.reduceBEq, Bool.or_false, Bool.false_or, Bool.or_true, Bool.true_or, ↓reduceIte, Nat.reduceAdd, Bool.false_eq_true] at hA
          subst hA
          have f4 : us 4 = .bool r := hF 4 (by simp)
          clear hF he
          rw [f4]
          clear f4
          refine (show wpList _ _ _ [] _ _ from ?_)
          go_wp2_with fail
          go_ret
          exact ⟨rfl, kx.out.trans hxW2.out⟩
      · have hr : r = false := by
          rw [hsame.out]
          simp only [not_and] at h2
          by_cases q1 : d = d'
          · by_cases q2 : m = m'
            · simp [h2 q1 q2]
            · simp [q2]
          · simp [q1]
        subst hr
        have hv := Hd.mk (not3 h2)
        clear sN sK sT hsame h2 heq
        refine Flow.wp_region_flow_l (fun qq => match qq with
          | 5 => SP.eq (.agg #[.string n, .string k, .int .i64 d, .int .u64 m, .string t, .slice K1 l.length c1])
          | 6 => SP.eq (.agg #[.string n, .string k])
          | 7 => SP.eq (.agg #[.string n, .string k, .int .i64 d', .int .u64 m', .string t', .slice K2 l'.length c2])
          | 8 => SP.eq (.agg #[.string n, .string k])
          | 9 => SP.eq (.bool true)
          | 10 => SP.eq (.bool true)
          | 11 => SP.eq (.pointer (some ⟨pA, 2, none⟩))
          | 12 => SP.eq (.agg #[.int .i64 d, .int .u64 m, .string t])
          | 13 => SP.eq (.pointer (some ⟨(pA + 1), 2, none⟩))
          | 14 => SP.eq (.agg #[.int .i64 d', .int .u64 m', .string t'])
          | 15 => SP.eq (.bool false)
          | 16 => SP.eq (.bool false)
          | 17 => SP.eq (.bool false)
          | 18 => SP.eq (undef)
          | 19 => SP.eq (undef)
          | 20 => SP.eq (undef)
          | 21 => SP.eq (undef)
          | 22 => SP.eq (undef)
          | 23 => SP.eq (.bool false)
          | 4 => SP.eq (.bool false)
          | _ => SP.any) 20 (by kernel_rfl) 24 rfl (by kernel_rfl) ?_ ?_
        · skip
          refine ⟨?_, ?_, ?_, ?_, ?_, ?_, ?_, ?_, ?_, ?_, ?_, ?_, ?_, ?_, ?_, ?_, ?_, ?_, ?_, ?_, trivial⟩
          · intro act W2 hk
            refine Flow.does_intro rfl (fun K hK => ?_)
            have e2 : act.tmps[2]?.getD undef = .pointer (some ⟨pA, 0, none⟩) := hk.o 2 (by kernel_rfl)
            have g := ((kA.out).ext ((Ext.drew W).trans hk.ext)).cell
            clear hk
            go_simp
            exact hK _ _ (Ext.refl _) (fun d hd => by cases hd; rfl)
          · intro act W2 hk
            refine Flow.does_intro rfl (fun K hK => ?_)
            have e5 : act.tmps[5]?.getD undef = .agg #[.string n, .string k, .int .i64 d, .int .u64 m, .string t, .slice K1 l.length c1] := hk.v 5 (by kernel_rfl)
            clear hk
            go_simp
            refine Calls.mono (hs1.out _) ?_
            rintro e W3 ⟨rfl, hx⟩
            exact hK _ _ hx (fun d hd => by cases hd; rfl)
          · intro act W2 hk
            refine Flow.does_intro rfl (fun K hK => ?_)
            have e3 : act.tmps[3]?.getD undef = .pointer (some ⟨(pA + 1), 0, none⟩) := hk.o 3 (by kernel_rfl)
            have g := ((kB.out).ext ((Ext.drew W).trans hk.ext)).cell
            clear hk
            go_simp
            exact hK _ _ (Ext.refl _) (fun d hd => by cases hd; rfl)
          · intro act W2 hk
            refine Flow.does_intro rfl (fun K hK => ?_)
            have e7 : act.tmps[7]?.getD undef = .agg #[.string n, .string k, .int .i64 d', .int .u64 m', .string t', .slice K2 l'.length c2] := hk.v 7 (by kernel_rfl)
            clear hk
            go_simp
            refine Calls.mono (hs2.out _) ?_
            rintro e W3 ⟨rfl, hx⟩
            exact hK _ _ hx (fun d hd => by cases hd; rfl)
          · intro act W2 hk
            refine Flow.does_intro rfl (fun K hK => ?_)
            have e6 : act.tmps[6]?.getD undef = .agg #[.string n, .string k] := hk.v 6 (by kernel_rfl)
            have e8 : act.tmps[8]?.getD undef = .agg #[.string n, .string k] := hk.v 8 (by kernel_rfl)
            clear hk
            go_simp
            exact hK _ _ (Ext.refl _) (fun d hd => by cases hd; rfl)
          · intro act W2 hk
            refine Flow.does_intro rfl (fun K hK => ?_)
            have e9 : act.tmps[9]?.getD undef = .bool true := hk.v 9 (by kernel_rfl)
            clear hk
            go_simp
            exact hK _ _ (Ext.refl _) (fun d hd => by cases hd; rfl)
          · intro act W2 hk
            have eg : act.tmps[10]?.getD undef = .bool true := hk.v 10 (by kernel_rfl)
            refine Flow.does_intro (wanted_yes rfl rfl eg) (fun K hK => ?_)
            clear eg
            have e2 : act.tmps[2]?.getD undef = .pointer (some ⟨pA, 0, none⟩) := hk.o 2 (by kernel_rfl)
            clear hk
            go_simp
            exact hK _ _ (Ext.refl _) (fun d hd => by cases hd; rfl)
          · intro act W2 hk
            have eg : act.tmps[10]?.getD undef = .bool true := hk.v 10 (by kernel_rfl)
            refine Flow.does_intro (wanted_yes rfl rfl eg) (fun K hK => ?_)
            clear eg
            have e11 : act.tmps[11]?.getD undef = .pointer (some ⟨pA, 2, none⟩) := hk.v 11 (by kernel_rfl)
            have g := ((kA.out).ext ((Ext.drew W).trans hk.ext)).cell
            clear hk
            go_simp
            exact hK _ _ (Ext.refl _) (fun d hd => by cases hd; rfl)
          · intro act W2 hk
            have eg : act.tmps[10]?.getD undef = .bool true := hk.v 10 (by kernel_rfl)
            refine Flow.does_intro (wanted_yes rfl rfl eg) (fun K hK => ?_)
            clear eg
            have e3 : act.tmps[3]?.getD undef = .pointer (some ⟨(pA + 1), 0, none⟩) := hk.o 3 (by kernel_rfl)
            clear hk
            go_simp
            exact hK _ _ (Ext.refl _) (fun d hd => by cases hd; rfl)
          · intro act W2 hk
            have eg : act.tmps[10]?.getD undef = .bool true := hk.v 10 (by kernel_rfl)
            refine Flow.does_intro (wanted_yes rfl rfl eg) (fun K hK => ?_)
            clear eg
            have e13 : act.tmps[13]?.getD undef = .pointer (some ⟨(pA + 1), 2, none⟩) := hk.v 13 (by kernel_rfl)
            have g := ((kB.out).ext ((Ext.drew W).trans hk.ext)).cell
            clear hk
            go_simp
            exact hK _ _ (Ext.refl _) (fun d hd => by cases hd; rfl)
          · intro act W2 hk
            have eg : act.tmps[10]?.getD undef = .bool true := hk.v 10 (by kernel_rfl)
            refine Flow.does_intro (wanted_yes rfl rfl eg) (fun K hK => ?_)
            clear eg
            have e12 : act.tmps[12]?.getD undef = .agg #[.int .i64 d, .int .u64 m, .string t] := hk.v 12 (by kernel_rfl)
            have e14 : act.tmps[14]?.getD undef = .agg #[.int .i64 d', .int .u64 m', .string t'] := hk.v 14 (by kernel_rfl)
            clear hk
            skip
            rcases hv.out with q | ⟨q1, q⟩ | ⟨q1, q2, q⟩
            all_goals go_simp
            all_goals exact hK _ _ (Ext.refl _) (fun d hd => by cases hd; rfl)
          · intro act W2 hk
            refine Flow.does_intro rfl (fun K hK => ?_)
            have e10 : act.tmps[10]?.getD undef = .bool true := hk.v 10 (by kernel_rfl)
            have e15 : act.tmps[15]?.getD undef = .bool false := hk.v 15 (by kernel_rfl)
            clear hk
            go_simp
            exact hK _ _ (Ext.refl _) (fun d hd => by cases hd; rfl)
          · intro act W2 hk
            refine Flow.does_intro rfl (fun K hK => ?_)
            have e16 : act.tmps[16]?.getD undef = .bool false := hk.v 16 (by kernel_rfl)
            clear hk
            go_simp
            exact hK _ _ (Ext.refl _) (fun d hd => by cases hd; rfl)
          · intro act W2 hk
            have eg : act.tmps[17]?.getD undef = .bool false := hk.v 17 (by kernel_rfl)
            exact Flow.does_skip (wanted_no rfl rfl eg) (fun d hd => by cases hd; rfl)
          · intro act W2 hk
            have eg : act.tmps[17]?.getD undef = .bool false := hk.v 17 (by kernel_rfl)
            exact Flow.does_skip (wanted_no rfl rfl eg) (fun d hd => by cases hd; rfl)
          · intro act W2 hk
            have eg : act.tmps[17]?.getD undef = .bool false := hk.v 17 (by kernel_rfl)
            exact Flow.does_skip (wanted_no rfl rfl eg) (fun d hd => by cases hd; rfl)
          · intro act W2 hk
            have eg : act.tmps[17]?.getD undef = .bool false := hk.v 17 (by kernel_rfl)
            exact Flow.does_skip (wanted_no rfl rfl eg) (fun d hd => by cases hd; rfl)
          · intro act W2 hk
            have eg : act.tmps[17]?.getD undef = .bool false := hk.v 17 (by kernel_rfl)
            exact Flow.does_skip (wanted_no rfl rfl eg) (fun d hd => by cases hd; rfl)
          · intro act W2 hk
            refine Flow.does_intro rfl (fun K hK => ?_)
            have e17 : act.tmps[17]?.getD undef = .bool false := hk.v 17 (by kernel_rfl)
            clear hk
            go_simp
            exact hK _ _ (Ext.refl _) (fun d hd => by cases hd; rfl)
          · intro act W2 hk
            refine Flow.does_intro rfl (fun K hK => ?_)
            have e23 : act.tmps[23]?.getD undef = .bool false := hk.v 23 (by kernel_rfl)
            clear hk
            go_simp
            exact hK _ _ (Ext.refl _) (fun d hd => by cases hd; rfl)
        · intro act W2 he
          have hxW2 := Hd.mk ((Ext.drew W).trans he.ext)
          obtain ⟨us, hA, hF⟩ := he.out [5, 6, 7, 8, 9, 10, 11, 12, 13, 14, 15, 16, 17, 18, 19, 20, 21, 22, 23, 4] (by kernel_rfl)
          simp only [Flow.fillL, List.contains_cons, List.contains_nil, Nat.reduceBEq, Bool.or_false, Bool.false_or, Bool.or_true, Bool.true_or, ↓reduceIte, Nat.reduceAdd, Bool.false_eq_true] at hA
          subst hA
          have f4 : us 4 = .bool false := hF 4 (by simp)
          clear hF he
          rw [f4]
          clear f4
          refine (show wpList _ _ _ [] _ _ from ?_)
          go_wp2_with fail
          go_ret
          exact ⟨rfl, kx.out.trans hxW2.out⟩
    · have hr : r = false := by
        rw [hsame.out]
        simp only [not_and] at h1
        by_cases q1 : n = n'
        · simp [h1 q1]
        · simp [q1]
      subst hr
      have hv := Hd.mk (not2 h1)
      clear sN sK sT hsame h1 heq
      refine Flow.wp_region_flow_l (fun qq => match qq with
        | 5 => SP.eq (.agg #[.string n, .string k, .int .i64 d, .int .u64 m, .string t, .slice K1 l.length c1])
        | 6 => SP.eq (.agg #[.string n, .string k])
        | 7 => SP.eq (.agg #[.string n', .string k', .int .i64 d', .int .u64 m', .string t', .slice K2 l'.length c2])
        | 8 => SP.eq (.agg #[.string n', .string k'])
        | 9 => SP.eq (.bool false)
        | 10 => SP.eq (.bool false)
        | 11 => SP.eq (undef)
        | 12 => SP.eq (undef)
        | 13 => SP.eq (undef)
        | 14 => SP.eq (undef)
        | 15 => SP.eq (undef)
        | 16 => SP.eq (.bool false)
        | 17 => SP.eq (.bool false)
        | 18 => SP.eq (undef)
        | 19 => SP.eq (undef)
        | 20 => SP.eq (undef)
        | 21 => SP.eq (undef)
        | 22 => SP.eq (undef)
        | 23 => SP.eq (.bool false)
        | 4 => SP.eq (.bool false)
        | _ => SP.any) 20 (by kernel_rfl) 24 rfl (by kernel_rfl) ?_ ?_
      · skip
        refine ⟨?_, ?_, ?_, ?_, ?_, ?_, ?_, ?_, ?_, ?_, ?_, ?_, ?_, ?_, ?_, ?_, ?_, ?_, ?_, ?_, trivial⟩
        · intro act W2 hk
          refine Flow.does_intro rfl (fun K hK => ?_)
          have e2 : act.tmps[2]?.getD undef = .pointer (some ⟨pA, 0, none⟩) := hk.o 2 (by kernel_rfl)
          have g := ((kA.out).ext ((Ext.drew W).trans hk.ext)).cell
          clear hk
          go_simp
          exact hK _ _ (Ext.refl _) (fun d hd => by cases hd; rfl)
        · intro act W2 hk
          refine Flow.does_intro rfl (fun K hK => ?_)
          have e5 : act.tmps[5]?.getD undef = .agg #[.string n, .string k, .int .i64 d, .int .u64 m, .string t, .slice K1 l.length c1] := hk.v 5 (by kernel_rfl)
          clear hk
          go_simp
          refine Calls.mono (hs1.out _) ?_
          rintro e W3 ⟨rfl, hx⟩
          exact hK _ _ hx (fun d hd => by cases hd; rfl)
        · intro act W2 hk
          refine Flow.does_intro rfl (fun K hK => ?_)
          have e3 : act.tmps[3]?.getD undef = .pointer (some ⟨(pA + 1), 0, none⟩) := hk.o 3 (by kernel_rfl)
          have g := ((kB.out).ext ((Ext.drew W).trans hk.ext)).cell
          clear hk
          go_simp
          exact hK _ _ (Ext.refl _) (fun d hd => by cases hd; rfl)
        · intro act W2 hk
          refine Flow.does_intro rfl (fun K hK => ?_)
          have e7 : act.tmps[7]?.getD undef = .agg #[.string n', .string k', .int .i64 d', .int .u64 m', .string t', .slice K2 l'.length c2] := hk.v 7 (by kernel_rfl)
          clear hk
          go_simp
          refine Calls.mono (hs2.out _) ?_
          rintro e W3 ⟨rfl, hx⟩
          exact hK _ _ hx (fun d hd => by cases hd; rfl)
        · intro act W2 hk
          refine Flow.does_intro rfl (fun K hK => ?_)
          have e6 : act.tmps[6]?.getD undef = .agg #[.string n, .string k] := hk.v 6 (by kernel_rfl)
          have e8 : act.tmps[8]?.getD undef = .agg #[.string n', .string k'] := hk.v 8 (by kernel_rfl)
          clear hk
          skip
          rcases hv.out with q | ⟨q1, q⟩
          all_goals go_simp
          all_goals exact hK _ _ (Ext.refl _) (fun d hd => by cases hd; rfl)
        · intro act W2 hk
          refine Flow.does_intro rfl (fun K hK => ?_)
          have e9 : act.tmps[9]?.getD undef = .bool false := hk.v 9 (by kernel_rfl)
          clear hk
          go_simp
          exact hK _ _ (Ext.refl _) (fun d hd => by cases hd; rfl)
        · intro act W2 hk
          have eg : act.tmps[10]?.getD undef = .bool false := hk.v 10 (by kernel_rfl)
          exact Flow.does_skip (wanted_no rfl rfl eg) (fun d hd => by cases hd; rfl)
        · intro act W2 hk
          have eg : act.tmps[10]?.getD undef = .bool false := hk.v 10 (by kernel_rfl)
          exact Flow.does_skip (wanted_no rfl rfl eg) (fun d hd => by cases hd; rfl)
        · intro act W2 hk
          have eg : act.tmps[10]?.getD undef = .bool false := hk.v 10 (by kernel_rfl)
          exact Flow.does_skip (wanted_no rfl rfl eg) (fun d hd => by cases hd; rfl)
        · intro act W2 hk
          have eg : act.tmps[10]?.getD undef = .bool false := hk.v 10 (by kernel_rfl)
          exact Flow.does_skip (wanted_no rfl rfl eg) (fun d hd => by cases hd; rfl)
        · intro act W2 hk
          have eg : act.tmps[10]?.getD undef = .bool false := hk.v 10 (by kernel_rfl)
          exact Flow.does_skip (wanted_no rfl rfl eg) (fun d hd => by cases hd; rfl)
        · intro act W2 hk
          refine Flow.does_intro rfl (fun K hK => ?_)
          have e10 : act.tmps[10]?.getD undef = .bool false := hk.v 10 (by kernel_rfl)
          clear hk
          go_simp
          exact hK _ _ (Ext.refl _) (fun d hd => by cases hd; rfl)
        · intro act W2 hk
          refine Flow.does_intro rfl (fun K hK => ?_)
          have e16 : act.tmps[16]?.getD undef = .bool false := hk.v 16 (by kernel_rfl)
          clear hk
          go_simp
          exact hK _ _ (Ext.refl _) (fun d hd => by cases hd; rfl)
        · intro act W2 hk
          have eg : act.tmps[17]?.getD undef = .bool false := hk.v 17 (by kernel_rfl)
          exact Flow.does_skip (wanted_no rfl rfl eg) (fun d hd => by cases hd; rfl)
        · intro act W2 hk
          have eg : act.tmps[17]?.getD undef = .bool false := hk.v 17 (by kernel_rfl)
          exact Flow.does_skip (wanted_no rfl rfl eg) (fun d hd => by cases hd; rfl)
        · intro act W2 hk
          have eg : act.tmps[17]?.getD undef = .bool false := hk.v 17 (by kernel_rfl)
          exact Flow.does_skip (wanted_no rfl rfl eg) (fun d hd => by cases hd; rfl)
        · intro act W2 hk
          have eg : act.tmps[17]?.getD undef = .bool false := hk.v 17 (by kernel_rfl)
          exact Flow.does_skip (wanted_no rfl rfl eg) (fun d hd => by cases hd; rfl)
        · intro act W2 hk
          have eg : act.tmps[17]?.getD undef = .bool false := hk.v 17 (by kernel_rfl)
          exact Flow.does_skip (wanted_no rfl rfl eg) (fun d hd => by cases hd; rfl)
        · intro act W2 hk
          refine Flow.does_intro rfl (fun K hK => ?_)
          have e17 : act.tmps[17]?.getD undef = .bool false := hk.v 17 (by kernel_rfl)
          clear hk
          go_simp
          exact hK _ _ (Ext.refl _) (fun d hd => by cases hd; rfl)
        · intro act W2 hk
          refine Flow.does_intro rfl (fun K hK => ?_)
          have e23 : act.tmps[23]?.getD undef = .bool false := hk.v 23 (by kernel_rfl)
          clear hk
          go_simp
          exact hK _ _ (Ext.refl _) (fun d hd => by cases hd; rfl)
      · intro act W2 he
        have hxW2 := Hd.mk ((Ext.drew W).trans he.ext)
        obtain ⟨us, hA, hF⟩ := he.out [5, 6, 7, 8, 9, 10, 11, 12, 13, 14, 15, 16, 17, 18, 19, 20, 21, 22, 23, 4] (by kernel_rfl)
        simp only [Flow.fillL, List.contains_cons, List.contains_nil, Nat.reduceBEq, Bool.or_false, Bool.false_or, Bool.or_true, Bool.true_or, ↓reduceIte, Nat.reduceAdd, Bool.false_eq_true] at hA
        subst hA
        have f4 : us 4 = .bool false := hF 4 (by simp)
        clear hF he
        rw [f4]
        clear f4
        refine (show wpList _ _ _ [] _ _ from ?_)
        go_wp2_with fail
        go_ret
        exact ⟨rfl, kx.out.trans hxW2.out⟩
end Go.Proofs.Ytgkgedjmnbjalaa

/- Texts that the law needs, joined.
   Conditions: none. -/
import Derived.Test.YtgkgedjmnbjalaaToC
import Derived.Test.YtgkgedjmnbjalaaToF
import Derived.Test.YtgkgedjmnbjalaaToG
set_option linter.unusedSimpArgs false
set_option linter.unusedVariables false
namespace Go.Proofs.Ytgkgedjmnbjalaa
open Go.RowKit Go.Sort
set_option maxRecDepth 100000 in
set_option maxHeartbeats 4000000 in
theorem tree_right : ∀ (N : Nat) (a : T) (S : Nat → Prop) (w : World) (c : List Value), a.deep ≤ N → RT S w a c →
    Calls Try.prog 62 #[.agg c.toArray] w fun e w' => e = .returned (.bool (rightT a)) ∧ Ext w w'
  | 0, a, S, w, c, hn, _ => by rw [a.deep_eq] at hn; omega
  | N + 1, .mk n k d m t l, S, w, c, hn, ha => by
    obtain ⟨K1, c1, rfl, hr1⟩ := ha.row
    simp only [T.name, T.key, T.kind, T.num, T.text, T.kids] at hr1 ⊢
    have kr1 := Hd.mk hr1
    have kn := Hd.mk (show deepL l ≤ N by rw [T.deep_eq] at hn; simp only [T.kids] at hn; omega)
    have hl1 := hr1.len
    have ih := Hd.mk (tree_right N)
    have hright : rightT (.mk n k d m t l) = if d = 0 then (decide (m = 0) && decide (t = ⟨#[]⟩)) && rightL none l else l.isEmpty := rfl
    have hleaf := Hd.mk (tree_leaf (.mk n k d m t l) K1 l.length c1)
    simp only [cT, T.name, T.key, T.kind, T.num, T.text] at hleaf
    clear hr1 ha hn
    generalize rightT _ = r at *
    simp only [cT]
    by_cases h0 : d = 0
    · subst h0
      rw [if_pos rfl] at hright
      rw [show ((0 : Int) != 0) = false from rfl] at hleaf
      by_cases h1 : m = 0
      · subst h1
        by_cases h2 : t = ⟨#[]⟩
        · subst h2
          have hr : r = rightL (prevOf l 0) (l.drop 0) := by rw [hright]; rfl
          clear hright
          go_enter Try.func62, Try.ntmps62
          go_wp2_with fail
          have kx := Hd.mk (Ext.alloc w (.cells #[.string n, .string k, .int .i64 0, .int .u64 0, .string ⟨#[]⟩, .slice K1 l.length c1] 54))
          have kA := Hd.mk (Blk.new w #[.string n, .string k, .int .i64 0, .int .u64 0, .string ⟨#[]⟩, .slice K1 l.length c1] 54)
          generalize w.heap.size = pA at *
          generalize w.alloc _ = W at *
          refine Calls.mono (hleaf.out _) ?_
          rintro e w1 ⟨rfl, hx⟩
          replace kx := Hd.mk (kx.out.trans hx)
          replace kA := Hd.mk (kA.out.ext hx)
          clear hx
          have gA := kA.out.cell
          go_wp2_with fail
          generalize w1 = W1 at *
          clear gA
          replace hr := Hd.mk hr
          go_loopg [17] (l.length + 1) (fun q i wr => ∃ j : Nat, j ≤ l.length ∧ Hd (q = l.length + 1 - j) ∧ i = .int .i64 j ∧ Hd (r = rightL (prevOf l j) (l.drop j)) ∧ Hd (Ext W1 wr))
          case atStart => exact ⟨0, by omega, ⟨by omega⟩, rfl, hr, ⟨Ext.refl _⟩⟩
          case round =>
          obtain ⟨j, hj, hq, rfl, hI, hxr⟩ := hrel
          by_cases hlt : j < l.length
          · have hx1 := List.getElem?_eq_getElem hlt
            generalize l[j] = x at hx1
            obtain ⟨b1, o1, ck, rfl, _, hrk, hck⟩ := kr1.out.kid j x hx1
            obtain ⟨K3, c3, rfl, _⟩ := hrk.row
            have hcall := Hd.mk (fun W' (h : Ext w W') => ih.out x S W' _ (by have := deepL_mem hx1; have := kn.out; omega) (hrk.ext h))
            have hdrop := Hd.mk (rightL_drop hx1)
            obtain ⟨e0, e1, e2, e3, e4, e5⟩ := six (kx.out.trans hxr.out) hck
            simp only [cT] at hcall
            have hlt0 : (j : Int) < (l.length : Int) := by omega
            go_wp2_with fail
            have hxa := Ext.alloc wr (.cells #[.string x.name, .string x.key, .int .i64 x.kind, .int .u64 x.num, .string x.text, .slice K3 x.kids.length c3] 54)
            have kB := Hd.mk (Blk.new wr #[.string x.name, .string x.key, .int .i64 x.kind, .int .u64 x.num, .string x.text, .slice K3 x.kids.length c3] 54)
            replace hxr := Hd.mk (hxr.out.trans hxa)
            have kA2 := Hd.mk (kA.out.ext hxr.out)
            have kxx := Hd.mk (kx.out.trans hxr.out)
            clear hxa e0 e1 e2 e3 e4 e5
            generalize wr.heap.size = gB at *
            generalize wr.alloc _ = W0 at *
            cases hs : rightT x with
            | false =>
              have hr0 : r = false := by rw [hI.out, hdrop.out, hs]; rfl
              subst hr0
              refine Flow.wp_region_flow_l (fun qq => match qq with
                | 22 => SP.eq (.agg #[.string n, .string k, .int .i64 0, .int .u64 0, .string ⟨#[]⟩, .slice (some ⟨b1, o1, none⟩) l.length c1])
                | 23 => SP.eq (.bool false)
                | 24 => SP.eq (.bool false)
                | 25 => SP.eq (.agg #[.string x.name, .string x.key, .int .i64 x.kind, .int .u64 x.num, .string x.text, .slice K3 x.kids.length c3])
                | 26 => SP.eq (.bool false)
                | 27 => SP.eq (.bool true)
                | 28 => SP.eq (.bool true)
                | 29 => SP.eq (.bool true)
                | 30 => SP.eq (undef)
                | 31 => SP.eq (undef)
                | 32 => SP.eq (undef)
                | 33 => SP.eq (undef)
                | 34 => SP.eq (undef)
                | 35 => SP.eq (undef)
                | 36 => SP.eq (undef)
                | 37 => SP.eq (undef)
                | 38 => SP.eq (undef)
                | 39 => SP.eq (undef)
                | 40 => SP.eq (undef)
                | 41 => SP.eq (undef)
                | 42 => SP.eq (undef)
                | 43 => SP.eq (.bool true)
                | _ => SP.any) 22 (by kernel_rfl) 45 rfl (by kernel_rfl) ?_ ?_
              · skip
                refine ⟨?_, ?_, ?_, ?_, ?_, ?_, ?_, ?_, ?_, ?_, ?_, ?_, ?_, ?_, ?_, ?_, ?_, ?_, ?_, ?_, ?_, ?_, trivial⟩
                · intro act W2 hk
                  refine Flow.does_intro rfl (fun Kq hK => ?_)
                  have e1 : act.tmps[1]?.getD undef = .pointer (some ⟨pA, 0, none⟩) := hk.o 1 (by kernel_rfl)
                  have g := ((kA2.out).ext ((Ext.drew W0).trans hk.ext)).cell
                  clear hk
                  go_simp
                  exact hK _ _ (Ext.refl _) (fun d hd => by cases hd; rfl)
                · intro act W2 hk
                  refine Flow.does_intro rfl (fun Kq hK => ?_)
                  have e22 : act.tmps[22]?.getD undef = .agg #[.string n, .string k, .int .i64 0, .int .u64 0, .string ⟨#[]⟩, .slice (some ⟨b1, o1, none⟩) l.length c1] := hk.v 22 (by kernel_rfl)
                  clear hk
                  go_simp
                  refine Calls.mono (hleaf.out _) ?_
                  rintro e W3 ⟨rfl, hx⟩
                  exact hK _ _ hx (fun d hd => by cases hd; rfl)
                · intro act W2 hk
                  refine Flow.does_intro rfl (fun Kq hK => ?_)
                  have e23 : act.tmps[23]?.getD undef = .bool false := hk.v 23 (by kernel_rfl)
                  clear hk
                  go_simp
                  exact hK _ _ (Ext.refl _) (fun d hd => by cases hd; rfl)
                · intro act W2 hk
                  have eg : act.tmps[24]?.getD undef = .bool false := hk.v 24 (by kernel_rfl)
                  refine Flow.does_intro (wanted_yes rfl rfl eg) (fun Kq hK => ?_)
                  clear eg
                  have e4 : act.tmps[4]?.getD undef = .pointer (some ⟨gB, 0, none⟩) := hk.o 4 (by kernel_rfl)
                  have g := ((kB.out).ext ((Ext.drew W0).trans hk.ext)).cell
                  clear hk
                  go_simp
                  exact hK _ _ (Ext.refl _) (fun d hd => by cases hd; rfl)
                · intro act W2 hk
                  have eg : act.tmps[24]?.getD undef = .bool false := hk.v 24 (by kernel_rfl)
                  refine Flow.does_intro (wanted_yes rfl rfl eg) (fun Kq hK => ?_)
                  clear eg
                  have e25 : act.tmps[25]?.getD undef = .agg #[.string x.name, .string x.key, .int .i64 x.kind, .int .u64 x.num, .string x.text, .slice K3 x.kids.length c3] := hk.v 25 (by kernel_rfl)
                  have hx0 := (Ext.drew W0).trans hk.ext
                  clear hk
                  go_simp
                  refine Calls.mono (hcall.out _ (kxx.out.trans hx0)) ?_
                  rintro e W3 ⟨rfl, hx⟩
                  exact hK _ _ hx (fun d hd => by cases hd; exact congrArg Value.bool hs)
                · intro act W2 hk
                  have eg : act.tmps[24]?.getD undef = .bool false := hk.v 24 (by kernel_rfl)
                  refine Flow.does_intro (wanted_yes rfl rfl eg) (fun Kq hK => ?_)
                  clear eg
                  have e26 : act.tmps[26]?.getD undef = .bool false := hk.v 26 (by kernel_rfl)
                  clear hk
                  go_simp
                  exact hK _ _ (Ext.refl _) (fun d hd => by cases hd; rfl)
                · intro act W2 hk
                  refine Flow.does_intro rfl (fun Kq hK => ?_)
                  have e24 : act.tmps[24]?.getD undef = .bool false := hk.v 24 (by kernel_rfl)
                  have e27 : act.tmps[27]?.getD undef = .bool true := hk.v 27 (by kernel_rfl)
                  clear hk
                  go_simp
                  exact hK _ _ (Ext.refl _) (fun d hd => by cases hd; rfl)
                · intro act W2 hk
                  refine Flow.does_intro rfl (fun Kq hK => ?_)
                  have e28 : act.tmps[28]?.getD undef = .bool true := hk.v 28 (by kernel_rfl)
                  clear hk
                  go_simp
                  exact hK _ _ (Ext.refl _) (fun d hd => by cases hd; rfl)
                · intro act W2 hk
                  have eg : act.tmps[29]?.getD undef = .bool true := hk.v 29 (by kernel_rfl)
                  exact Flow.does_skip (wanted_no rfl rfl eg) (fun d hd => by cases hd; rfl)
                · intro act W2 hk
                  have eg : act.tmps[29]?.getD undef = .bool true := hk.v 29 (by kernel_rfl)
                  exact Flow.does_skip (wanted_no rfl rfl eg) (fun d hd => by cases hd; rfl)
                · intro act W2 hk
                  have eg : act.tmps[29]?.getD undef = .bool true := hk.v 29 (by kernel_rfl)
                  exact Flow.does_skip (wanted_no rfl rfl eg) (fun d hd => by cases hd; rfl)
                · intro act W2 hk
                  have eg : act.tmps[32]?.getD undef = undef := hk.v 32 (by kernel_rfl)
                  exact Flow.does_skip (wanted_off rfl rfl eg) (fun d hd => by cases hd; rfl)
                · intro act W2 hk
                  have eg : act.tmps[32]?.getD undef = undef := hk.v 32 (by kernel_rfl)
                  exact Flow.does_skip (wanted_off rfl rfl eg) (fun d hd => by cases hd; rfl)
                · intro act W2 hk
                  have eg : act.tmps[32]?.getD undef = undef := hk.v 32 (by kernel_rfl)
                  exact Flow.does_skip (wanted_off rfl rfl eg) (fun d hd => by cases hd; rfl)
                · intro act W2 hk
                  have eg : act.tmps[32]?.getD undef = undef := hk.v 32 (by kernel_rfl)
                  exact Flow.does_skip (wanted_off rfl rfl eg) (fun d hd => by cases hd; rfl)
                · intro act W2 hk
                  have eg : act.tmps[32]?.getD undef = undef := hk.v 32 (by kernel_rfl)
                  exact Flow.does_skip (wanted_off rfl rfl eg) (fun d hd => by cases hd; rfl)
                · intro act W2 hk
                  have eg : act.tmps[32]?.getD undef = undef := hk.v 32 (by kernel_rfl)
                  exact Flow.does_skip (wanted_off rfl rfl eg) (fun d hd => by cases hd; rfl)
                · intro act W2 hk
                  have eg : act.tmps[32]?.getD undef = undef := hk.v 32 (by kernel_rfl)
                  exact Flow.does_skip (wanted_off rfl rfl eg) (fun d hd => by cases hd; rfl)
                · intro act W2 hk
                  have eg : act.tmps[32]?.getD undef = undef := hk.v 32 (by kernel_rfl)
                  exact Flow.does_skip (wanted_off rfl rfl eg) (fun d hd => by cases hd; rfl)
                · intro act W2 hk
                  have eg : act.tmps[32]?.getD undef = undef := hk.v 32 (by kernel_rfl)
                  exact Flow.does_skip (wanted_off rfl rfl eg) (fun d hd => by cases hd; rfl)
                · intro act W2 hk
                  have eg : act.tmps[29]?.getD undef = .bool true := hk.v 29 (by kernel_rfl)
                  exact Flow.does_skip (wanted_no rfl rfl eg) (fun d hd => by cases hd; rfl)
                · intro act W2 hk
                  refine Flow.does_intro rfl (fun Kq hK => ?_)
                  have e29 : act.tmps[29]?.getD undef = .bool true := hk.v 29 (by kernel_rfl)
                  clear hk
                  go_simp
                  exact hK _ _ (Ext.refl _) (fun d hd => by cases hd; rfl)
              · intro act W2 he
                have hxW2 := Hd.mk ((Ext.drew W0).trans he.ext)
                obtain ⟨us, hA, hF⟩ := he.out [22, 23, 24, 25, 26, 27, 28, 29, 30, 31, 32, 33, 34, 35, 36, 37, 38, 39, 40, 41, 42, 43] (by kernel_rfl)
                simp only [Flow.fillL, List.contains_cons, List.contains_nil, Nat.reduceBEq, Bool.or_false, Bool.false_or, Bool.or_true, Bool.true_or, ↓reduceIte, Nat.reduceAdd, Bool.false_eq_true] at hA
                subst hA
                have f43 : us 43 = .bool true := hF 43 (by simp)
                clear hF he
                rw [f43]
                clear f43
                refine (show wpList _ _ _ [] _ _ from ?_)
                go_wp2_with fail
                go_ret
                exact ⟨rfl, kxx.out.trans hxW2.out⟩
            | true =>
              by_cases hj0 : j = 0
              · subst hj0
                refine Flow.wp_region_flow_l (fun qq => match qq with
                  | 22 => SP.eq (.agg #[.string n, .string k, .int .i64 0, .int .u64 0, .string ⟨#[]⟩, .slice (some ⟨b1, o1, none⟩) l.length c1])
                  | 23 => SP.eq (.bool false)
                  | 24 => SP.eq (.bool false)
                  | 25 => SP.eq (.agg #[.string x.name, .string x.key, .int .i64 x.kind, .int .u64 x.num, .string x.text, .slice K3 x.kids.length c3])
                  | 26 => SP.eq (.bool true)
                  | 27 => SP.eq (.bool false)
                  | 28 => SP.eq (.bool false)
                  | 29 => SP.eq (.bool false)
                  | 30 => SP.eq (.int .i64 ((0 : Nat) : Int))
                  | 31 => SP.eq (.bool false)
                  | 32 => SP.eq (.bool false)
                  | 33 => SP.eq (undef)
                  | 34 => SP.eq (undef)
                  | 35 => SP.eq (undef)
                  | 36 => SP.eq (undef)
                  | 37 => SP.eq (undef)
                  | 38 => SP.eq (undef)
                  | 39 => SP.eq (undef)
                  | 40 => SP.eq (undef)
                  | 41 => SP.eq (undef)
                  | 42 => SP.eq (.bool false)
                  | 43 => SP.eq (.bool false)
                  | _ => SP.any) 22 (by kernel_rfl) 45 rfl (by kernel_rfl) ?_ ?_
                · skip
                  refine ⟨?_, ?_, ?_, ?_, ?_, ?_, ?_, ?_, ?_, ?_, ?_, ?_, ?_, ?_, ?_, ?_, ?_, ?_, ?_, ?_, ?_, ?_, trivial⟩
                  · intro act W2 hk
                    refine Flow.does_intro rfl (fun Kq hK => ?_)
                    have e1 : act.tmps[1]?.getD undef = .pointer (some ⟨pA, 0, none⟩) := hk.o 1 (by kernel_rfl)
                    have g := ((kA2.out).ext ((Ext.drew W0).trans hk.ext)).cell
                    clear hk
                    go_simp
                    exact hK _ _ (Ext.refl _) (fun d hd => by cases hd; rfl)
                  · intro act W2 hk
                    refine Flow.does_intro rfl (fun Kq hK => ?_)
                    have e22 : act.tmps[22]?.getD undef = .agg #[.string n, .string k, .int .i64 0, .int .u64 0, .string ⟨#[]⟩, .slice (some ⟨b1, o1, none⟩) l.length c1] := hk.v 22 (by kernel_rfl)
                    clear hk
                    go_simp
                    refine Calls.mono (hleaf.out _) ?_
                    rintro e W3 ⟨rfl, hx⟩
                    exact hK _ _ hx (fun d hd => by cases hd; rfl)
                  · intro act W2 hk
                    refine Flow.does_intro rfl (fun Kq hK => ?_)
                    have e23 : act.tmps[23]?.getD undef = .bool false := hk.v 23 (by kernel_rfl)
                    clear hk
                    go_simp
                    exact hK _ _ (Ext.refl _) (fun d hd => by cases hd; rfl)
                  · intro act W2 hk
                    have eg : act.tmps[24]?.getD undef = .bool false := hk.v 24 (by kernel_rfl)
                    refine Flow.does_intro (wanted_yes rfl rfl eg) (fun Kq hK => ?_)
                    clear eg
                    have e4 : act.tmps[4]?.getD undef = .pointer (some ⟨gB, 0, none⟩) := hk.o 4 (by kernel_rfl)
                    have g := ((kB.out).ext ((Ext.drew W0).trans hk.ext)).cell
                    clear hk
                    go_simp
                    exact hK _ _ (Ext.refl _) (fun d hd => by cases hd; rfl)
                  · intro act W2 hk
                    have eg : act.tmps[24]?.getD undef = .bool false := hk.v 24 (by kernel_rfl)
                    refine Flow.does_intro (wanted_yes rfl rfl eg) (fun Kq hK => ?_)
                    clear eg
                    have e25 : act.tmps[25]?.getD undef = .agg #[.string x.name, .string x.key, .int .i64 x.kind, .int .u64 x.num, .string x.text, .slice K3 x.kids.length c3] := hk.v 25 (by kernel_rfl)
                    have hx0 := (Ext.drew W0).trans hk.ext
                    clear hk
                    go_simp
                    refine Calls.mono (hcall.out _ (kxx.out.trans hx0)) ?_
                    rintro e W3 ⟨rfl, hx⟩
                    exact hK _ _ hx (fun d hd => by cases hd; exact congrArg Value.bool hs)
                  · intro act W2 hk
                    have eg : act.tmps[24]?.getD undef = .bool false := hk.v 24 (by kernel_rfl)
                    refine Flow.does_intro (wanted_yes rfl rfl eg) (fun Kq hK => ?_)
                    clear eg
                    have e26 : act.tmps[26]?.getD undef = .bool true := hk.v 26 (by kernel_rfl)
                    clear hk
                    go_simp
                    exact hK _ _ (Ext.refl _) (fun d hd => by cases hd; rfl)
                  · intro act W2 hk
                    refine Flow.does_intro rfl (fun Kq hK => ?_)
                    have e24 : act.tmps[24]?.getD undef = .bool false := hk.v 24 (by kernel_rfl)
                    have e27 : act.tmps[27]?.getD undef = .bool false := hk.v 27 (by kernel_rfl)
                    clear hk
                    go_simp
                    exact hK _ _ (Ext.refl _) (fun d hd => by cases hd; rfl)
                  · intro act W2 hk
                    refine Flow.does_intro rfl (fun Kq hK => ?_)
                    have e28 : act.tmps[28]?.getD undef = .bool false := hk.v 28 (by kernel_rfl)
                    clear hk
                    go_simp
                    exact hK _ _ (Ext.refl _) (fun d hd => by cases hd; rfl)
                  · intro act W2 hk
                    have eg : act.tmps[29]?.getD undef = .bool false := hk.v 29 (by kernel_rfl)
                    refine Flow.does_intro (wanted_yes rfl rfl eg) (fun Kq hK => ?_)
                    clear eg
                    have e3 : act.tmps[3]?.getD undef = .int .i64 ((0 : Nat) : Int) := hk.o 3 (by kernel_rfl)
                    clear hk
                    go_simp
                    exact hK _ _ (Ext.refl _) (fun d hd => by cases hd; rfl)
                  · intro act W2 hk
                    have eg : act.tmps[29]?.getD undef = .bool false := hk.v 29 (by kernel_rfl)
                    refine Flow.does_intro (wanted_yes rfl rfl eg) (fun Kq hK => ?_)
                    clear eg
                    have e30 : act.tmps[30]?.getD undef = .int .i64 ((0 : Nat) : Int) := hk.v 30 (by kernel_rfl)
                    clear hk
                    go_simp
                    exact hK _ _ (Ext.refl _) (fun d hd => by cases hd; rfl)
                  · intro act W2 hk
                    have eg : act.tmps[29]?.getD undef = .bool false := hk.v 29 (by kernel_rfl)
                    refine Flow.does_intro (wanted_yes rfl rfl eg) (fun Kq hK => ?_)
                    clear eg
                    have e31 : act.tmps[31]?.getD undef = .bool false := hk.v 31 (by kernel_rfl)
                    clear hk
                    go_simp
                    exact hK _ _ (Ext.refl _) (fun d hd => by cases hd; rfl)
                  · intro act W2 hk
                    have eg : act.tmps[32]?.getD undef = .bool false := hk.v 32 (by kernel_rfl)
                    exact Flow.does_skip (wanted_no rfl rfl eg) (fun d hd => by cases hd; rfl)
                  · intro act W2 hk
                    have eg : act.tmps[32]?.getD undef = .bool false := hk.v 32 (by kernel_rfl)
                    exact Flow.does_skip (wanted_no rfl rfl eg) (fun d hd => by cases hd; rfl)
                  · intro act W2 hk
                    have eg : act.tmps[32]?.getD undef = .bool false := hk.v 32 (by kernel_rfl)
                    exact Flow.does_skip (wanted_no rfl rfl eg) (fun d hd => by cases hd; rfl)
                  · intro act W2 hk
                    have eg : act.tmps[32]?.getD undef = .bool false := hk.v 32 (by kernel_rfl)
                    exact Flow.does_skip (wanted_no rfl rfl eg) (fun d hd => by cases hd; rfl)
                  · intro act W2 hk
                    have eg : act.tmps[32]?.getD undef = .bool false := hk.v 32 (by kernel_rfl)
                    exact Flow.does_skip (wanted_no rfl rfl eg) (fun d hd => by cases hd; rfl)
                  · intro act W2 hk
                    have eg : act.tmps[32]?.getD undef = .bool false := hk.v 32 (by kernel_rfl)
                    exact Flow.does_skip (wanted_no rfl rfl eg) (fun d hd => by cases hd; rfl)
                  · intro act W2 hk
                    have eg : act.tmps[32]?.getD undef = .bool false := hk.v 32 (by kernel_rfl)
                    exact Flow.does_skip (wanted_no rfl rfl eg) (fun d hd => by cases hd; rfl)
                  · intro act W2 hk
                    have eg : act.tmps[32]?.getD undef = .bool false := hk.v 32 (by kernel_rfl)
                    exact Flow.does_skip (wanted_no rfl rfl eg) (fun d hd => by cases hd; rfl)
                  · intro act W2 hk
                    have eg : act.tmps[32]?.getD undef = .bool false := hk.v 32 (by kernel_rfl)
                    exact Flow.does_skip (wanted_no rfl rfl eg) (fun d hd => by cases hd; rfl)
                  · intro act W2 hk
                    have eg : act.tmps[29]?.getD undef = .bool false := hk.v 29 (by kernel_rfl)
                    refine Flow.does_intro (wanted_yes rfl rfl eg) (fun Kq hK => ?_)
                    clear eg
                    have e32 : act.tmps[32]?.getD undef = .bool false := hk.v 32 (by kernel_rfl)
                    clear hk
                    go_simp
                    exact hK _ _ (Ext.refl _) (fun d hd => by cases hd; rfl)
                  · intro act W2 hk
                    refine Flow.does_intro rfl (fun Kq hK => ?_)
                    have e29 : act.tmps[29]?.getD undef = .bool false := hk.v 29 (by kernel_rfl)
                    have e42 : act.tmps[42]?.getD undef = .bool false := hk.v 42 (by kernel_rfl)
                    clear hk
                    go_simp
                    exact hK _ _ (Ext.refl _) (fun d hd => by cases hd; rfl)
                · intro act W2 he
                  have hxW2 := Hd.mk ((Ext.drew W0).trans he.ext)
                  obtain ⟨us, hA, hF⟩ := he.out [22, 23, 24, 25, 26, 27, 28, 29, 30, 31, 32, 33, 34, 35, 36, 37, 38, 39, 40, 41, 42, 43] (by kernel_rfl)
                  simp only [Flow.fillL, List.contains_cons, List.contains_nil, Nat.reduceBEq, Bool.or_false, Bool.false_or, Bool.or_true, Bool.true_or, ↓reduceIte, Nat.reduceAdd, Bool.false_eq_true] at hA
                  subst hA
                  have f43 : us 43 = .bool false := hF 43 (by simp)
                  clear hF he
                  rw [f43]
                  clear f43
                  refine (show wpList _ _ _ [] _ _ from ?_)
                  go_wp2_with fail
                  go_roundg (l.length + 1 - (0 + 1))
                  case measure => have := hq.out; omega
                  case rel => exact ⟨0 + 1, by omega, ⟨rfl⟩, by go_num, ⟨by rw [hI.out, hdrop.out, hs]; rfl⟩, ⟨hxr.out.trans hxW2.out⟩⟩
              · obtain ⟨p, hp⟩ : ∃ p, j = p + 1 := ⟨j - 1, by omega⟩
                have hpl : p < l.length := by omega
                have hx0 := List.getElem?_eq_getElem hpl
                generalize l[p] = y at hx0
                have hprev : prevOf l j = some y := by rw [prevOf, if_neg hj0, hp]; exact hx0
                obtain ⟨b2, o2, dk, he2, _, hrd, hdk⟩ := kr1.out.kid p y hx0
                simp only [Option.some.injEq, Addr.mk.injEq, and_true] at he2
                obtain ⟨rfl, rfl⟩ := he2
                obtain ⟨K4, c4, rfl, _⟩ := hrd.row
                have kcy := Hd.mk (fun (q : Nat) v (hv : (cT y.name y.key y.kind y.num y.text K4 y.kids.length c4)[q]? = some v) => Ext.cell kxx.out (hdk q v hv))
                simp only [cT] at kcy
                have hless := Hd.mk (fun w => tree_less y x K4 K3 y.kids.length c4 x.kids.length c3 w)
                simp only [cT] at hless
                replace hp := Hd.mk hp
                replace hpl := Hd.mk hpl
                clear hck hdk hrk hrd hx1 hx0 hj0
                cases hle : lessT y x with
                | true =>
                  refine Flow.wp_region_flow_l (fun qq => match qq with
                    | 22 => SP.eq (.agg #[.string n, .string k, .int .i64 0, .int .u64 0, .string ⟨#[]⟩, .slice (some ⟨b1, o1, none⟩) l.length c1])
                    | 23 => SP.eq (.bool false)
                    | 24 => SP.eq (.bool false)
                    | 25 => SP.eq (.agg #[.string x.name, .string x.key, .int .i64 x.kind, .int .u64 x.num, .string x.text, .slice K3 x.kids.length c3])
                    | 26 => SP.eq (.bool true)
                    | 27 => SP.eq (.bool false)
                    | 28 => SP.eq (.bool false)
                    | 29 => SP.eq (.bool false)
                    | 30 => SP.eq (.int .i64 (j : Nat))
                    | 31 => SP.eq (.bool true)
                    | 32 => SP.eq (.bool true)
                    | 33 => SP.eq (.pointer (some ⟨pA, 5, none⟩))
                    | 34 => SP.eq (.slice (some ⟨b1, o1, none⟩) l.length c1)
                    | 35 => SP.eq (.int .i64 (j : Nat))
                    | 36 => SP.eq (.int .i64 (p : Nat))
                    | 37 => SP.eq (.pointer (some ⟨b1, o1 + p * 6, none⟩))
                    | 38 => SP.eq (.agg #[.string y.name, .string y.key, .int .i64 y.kind, .int .u64 y.num, .string y.text, .slice K4 y.kids.length c4])
                    | 39 => SP.eq (.agg #[.string x.name, .string x.key, .int .i64 x.kind, .int .u64 x.num, .string x.text, .slice K3 x.kids.length c3])
                    | 40 => SP.eq (.bool true)
                    | 41 => SP.eq (.bool false)
                    | 42 => SP.eq (.bool false)
                    | 43 => SP.eq (.bool false)
                    | _ => SP.any) 22 (by kernel_rfl) 45 rfl (by kernel_rfl) ?_ ?_
                  · skip
                    refine ⟨?_, ?_, ?_, ?_, ?_, ?_, ?_, ?_, ?_, ?_, ?_, ?_, ?_, ?_, ?_, ?_, ?_, ?_, ?_, ?_, ?_, ?_, trivial⟩
                    · intro act W2 hk
                      refine Flow.does_intro rfl (fun Kq hK => ?_)
                      have e1 : act.tmps[1]?.getD undef = .pointer (some ⟨pA, 0, none⟩) := hk.o 1 (by kernel_rfl)
                      have g := ((kA2.out).ext ((Ext.drew W0).trans hk.ext)).cell
                      clear hk
                      go_simp
                      exact hK _ _ (Ext.refl _) (fun d hd => by cases hd; rfl)
                    · intro act W2 hk
                      refine Flow.does_intro rfl (fun Kq hK => ?_)
                      have e22 : act.tmps[22]?.getD undef = .agg #[.string n, .string k, .int .i64 0, .int .u64 0, .string ⟨#[]⟩, .slice (some ⟨b1, o1, none⟩) l.length c1] := hk.v 22 (by kernel_rfl)
                      clear hk
                      go_simp
                      refine Calls.mono (hleaf.out _) ?_
                      rintro e W3 ⟨rfl, hx⟩
                      exact hK _ _ hx (fun d hd => by cases hd; rfl)
                    · intro act W2 hk
                      refine Flow.does_intro rfl (fun Kq hK => ?_)
                      have e23 : act.tmps[23]?.getD undef = .bool false := hk.v 23 (by kernel_rfl)
                      clear hk
                      go_simp
                      exact hK _ _ (Ext.refl _) (fun d hd => by cases hd; rfl)
                    · intro act W2 hk
                      have eg : act.tmps[24]?.getD undef = .bool false := hk.v 24 (by kernel_rfl)
                      refine Flow.does_intro (wanted_yes rfl rfl eg) (fun Kq hK => ?_)
                      clear eg
                      have e4 : act.tmps[4]?.getD undef = .pointer (some ⟨gB, 0, none⟩) := hk.o 4 (by kernel_rfl)
                      have g := ((kB.out).ext ((Ext.drew W0).trans hk.ext)).cell
                      clear hk
                      go_simp
                      exact hK _ _ (Ext.refl _) (fun d hd => by cases hd; rfl)
                    · intro act W2 hk
                      have eg : act.tmps[24]?.getD undef = .bool false := hk.v 24 (by kernel_rfl)
                      refine Flow.does_intro (wanted_yes rfl rfl eg) (fun Kq hK => ?_)
                      clear eg
                      have e25 : act.tmps[25]?.getD undef = .agg #[.string x.name, .string x.key, .int .i64 x.kind, .int .u64 x.num, .string x.text, .slice K3 x.kids.length c3] := hk.v 25 (by kernel_rfl)
                      have hx0 := (Ext.drew W0).trans hk.ext
                      clear hk
                      go_simp
                      refine Calls.mono (hcall.out _ (kxx.out.trans hx0)) ?_
                      rintro e W3 ⟨rfl, hx⟩
                      exact hK _ _ hx (fun d hd => by cases hd; exact congrArg Value.bool hs)
                    · intro act W2 hk
                      have eg : act.tmps[24]?.getD undef = .bool false := hk.v 24 (by kernel_rfl)
                      refine Flow.does_intro (wanted_yes rfl rfl eg) (fun Kq hK => ?_)
                      clear eg
                      have e26 : act.tmps[26]?.getD undef = .bool true := hk.v 26 (by kernel_rfl)
                      clear hk
                      go_simp
                      exact hK _ _ (Ext.refl _) (fun d hd => by cases hd; rfl)
                    · intro act W2 hk
                      refine Flow.does_intro rfl (fun Kq hK => ?_)
                      have e24 : act.tmps[24]?.getD undef = .bool false := hk.v 24 (by kernel_rfl)
                      have e27 : act.tmps[27]?.getD undef = .bool false := hk.v 27 (by kernel_rfl)
                      clear hk
                      go_simp
                      exact hK _ _ (Ext.refl _) (fun d hd => by cases hd; rfl)
                    · intro act W2 hk
                      refine Flow.does_intro rfl (fun Kq hK => ?_)
                      have e28 : act.tmps[28]?.getD undef = .bool false := hk.v 28 (by kernel_rfl)
                      clear hk
                      go_simp
                      exact hK _ _ (Ext.refl _) (fun d hd => by cases hd; rfl)
                    · intro act W2 hk
                      have eg : act.tmps[29]?.getD undef = .bool false := hk.v 29 (by kernel_rfl)
                      refine Flow.does_intro (wanted_yes rfl rfl eg) (fun Kq hK => ?_)
                      clear eg
                      have e3 : act.tmps[3]?.getD undef = .int .i64 (j : Nat) := hk.o 3 (by kernel_rfl)
                      clear hk
                      go_simp
                      exact hK _ _ (Ext.refl _) (fun d hd => by cases hd; rfl)
                    · intro act W2 hk
                      have eg : act.tmps[29]?.getD undef = .bool false := hk.v 29 (by kernel_rfl)
                      refine Flow.does_intro (wanted_yes rfl rfl eg) (fun Kq hK => ?_)
                      clear eg
                      have e30 : act.tmps[30]?.getD undef = .int .i64 (j : Nat) := hk.v 30 (by kernel_rfl)
                      clear hk
                      go_simp
                      exact hK _ _ (Ext.refl _) (fun d hd => by cases hd; have h1 := hp.out; simp [SP.eq]; omega)
                    · intro act W2 hk
                      have eg : act.tmps[29]?.getD undef = .bool false := hk.v 29 (by kernel_rfl)
                      refine Flow.does_intro (wanted_yes rfl rfl eg) (fun Kq hK => ?_)
                      clear eg
                      have e31 : act.tmps[31]?.getD undef = .bool true := hk.v 31 (by kernel_rfl)
                      clear hk
                      go_simp
                      exact hK _ _ (Ext.refl _) (fun d hd => by cases hd; rfl)
                    · intro act W2 hk
                      have eg : act.tmps[32]?.getD undef = .bool true := hk.v 32 (by kernel_rfl)
                      refine Flow.does_intro (wanted_yes rfl rfl eg) (fun Kq hK => ?_)
                      clear eg
                      have e1 : act.tmps[1]?.getD undef = .pointer (some ⟨pA, 0, none⟩) := hk.o 1 (by kernel_rfl)
                      clear hk
                      go_simp
                      exact hK _ _ (Ext.refl _) (fun d hd => by cases hd; rfl)
                    · intro act W2 hk
                      have eg : act.tmps[32]?.getD undef = .bool true := hk.v 32 (by kernel_rfl)
                      refine Flow.does_intro (wanted_yes rfl rfl eg) (fun Kq hK => ?_)
                      clear eg
                      have e33 : act.tmps[33]?.getD undef = .pointer (some ⟨pA, 5, none⟩) := hk.v 33 (by kernel_rfl)
                      have g := ((kA2.out).ext ((Ext.drew W0).trans hk.ext)).cell
                      clear hk
                      go_simp
                      exact hK _ _ (Ext.refl _) (fun d hd => by cases hd; rfl)
                    · intro act W2 hk
                      have eg : act.tmps[32]?.getD undef = .bool true := hk.v 32 (by kernel_rfl)
                      refine Flow.does_intro (wanted_yes rfl rfl eg) (fun Kq hK => ?_)
                      clear eg
                      have e3 : act.tmps[3]?.getD undef = .int .i64 (j : Nat) := hk.o 3 (by kernel_rfl)
                      clear hk
                      go_simp
                      exact hK _ _ (Ext.refl _) (fun d hd => by cases hd; rfl)
                    · intro act W2 hk
                      have eg : act.tmps[32]?.getD undef = .bool true := hk.v 32 (by kernel_rfl)
                      refine Flow.does_intro (wanted_yes rfl rfl eg) (fun Kq hK => ?_)
                      clear eg
                      have e35 : act.tmps[35]?.getD undef = .int .i64 (j : Nat) := hk.v 35 (by kernel_rfl)
                      clear hk
                      go_simp
                      exact hK _ _ (Ext.refl _) (fun d hd => by cases hd; have h1 := hp.out; have h2 := hpl.out; simp [SP.eq]; first | omega | (rw [IntKind.wrap_i64]; omega))
                    · intro act W2 hk
                      have eg : act.tmps[32]?.getD undef = .bool true := hk.v 32 (by kernel_rfl)
                      refine Flow.does_intro (wanted_yes rfl rfl eg) (fun Kq hK => ?_)
                      clear eg
                      have e34 : act.tmps[34]?.getD undef = .slice (some ⟨b1, o1, none⟩) l.length c1 := hk.v 34 (by kernel_rfl)
                      have e36 : act.tmps[36]?.getD undef = .int .i64 (p : Nat) := hk.v 36 (by kernel_rfl)
                      have hpl2 := hpl.out
                      clear hk
                      go_simp
                      exact hK _ _ (Ext.refl _) (fun d hd => by cases hd; rfl)
                    · intro act W2 hk
                      have eg : act.tmps[32]?.getD undef = .bool true := hk.v 32 (by kernel_rfl)
                      refine Flow.does_intro (wanted_yes rfl rfl eg) (fun Kq hK => ?_)
                      clear eg
                      have e37 : act.tmps[37]?.getD undef = .pointer (some ⟨b1, o1 + p * 6, none⟩) := hk.v 37 (by kernel_rfl)
                      have g0 := Ext.cell ((Ext.drew W0).trans hk.ext) ((kcy.out) 0 _ rfl)
                      rw [Nat.add_zero] at g0
                      have g1 := Ext.cell ((Ext.drew W0).trans hk.ext) ((kcy.out) 1 _ rfl)
                      have g2 := Ext.cell ((Ext.drew W0).trans hk.ext) ((kcy.out) 2 _ rfl)
                      have g3 := Ext.cell ((Ext.drew W0).trans hk.ext) ((kcy.out) 3 _ rfl)
                      have g4 := Ext.cell ((Ext.drew W0).trans hk.ext) ((kcy.out) 4 _ rfl)
                      have g5 := Ext.cell ((Ext.drew W0).trans hk.ext) ((kcy.out) 5 _ rfl)
                      clear hk
                      go_simp
                      exact hK _ _ (Ext.refl _) (fun d hd => by cases hd; rfl)
                    · intro act W2 hk
                      have eg : act.tmps[32]?.getD undef = .bool true := hk.v 32 (by kernel_rfl)
                      refine Flow.does_intro (wanted_yes rfl rfl eg) (fun Kq hK => ?_)
                      clear eg
                      have e4 : act.tmps[4]?.getD undef = .pointer (some ⟨gB, 0, none⟩) := hk.o 4 (by kernel_rfl)
                      have g := ((kB.out).ext ((Ext.drew W0).trans hk.ext)).cell
                      clear hk
                      go_simp
                      exact hK _ _ (Ext.refl _) (fun d hd => by cases hd; rfl)
                    · intro act W2 hk
                      have eg : act.tmps[32]?.getD undef = .bool true := hk.v 32 (by kernel_rfl)
                      refine Flow.does_intro (wanted_yes rfl rfl eg) (fun Kq hK => ?_)
                      clear eg
                      have e38 : act.tmps[38]?.getD undef = .agg #[.string y.name, .string y.key, .int .i64 y.kind, .int .u64 y.num, .string y.text, .slice K4 y.kids.length c4] := hk.v 38 (by kernel_rfl)
                      have e39 : act.tmps[39]?.getD undef = .agg #[.string x.name, .string x.key, .int .i64 x.kind, .int .u64 x.num, .string x.text, .slice K3 x.kids.length c3] := hk.v 39 (by kernel_rfl)
                      clear hk
                      go_simp
                      refine Calls.mono (hless.out _) ?_
                      rintro e W3 ⟨rfl, hx⟩
                      exact hK _ _ hx (fun d hd => by cases hd; exact congrArg Value.bool hle)
                    · intro act W2 hk
                      have eg : act.tmps[32]?.getD undef = .bool true := hk.v 32 (by kernel_rfl)
                      refine Flow.does_intro (wanted_yes rfl rfl eg) (fun Kq hK => ?_)
                      clear eg
                      have e40 : act.tmps[40]?.getD undef = .bool true := hk.v 40 (by kernel_rfl)
                      clear hk
                      go_simp
                      exact hK _ _ (Ext.refl _) (fun d hd => by cases hd; rfl)
                    · intro act W2 hk
                      have eg : act.tmps[29]?.getD undef = .bool false := hk.v 29 (by kernel_rfl)
                      refine Flow.does_intro (wanted_yes rfl rfl eg) (fun Kq hK => ?_)
                      clear eg
                      have e32 : act.tmps[32]?.getD undef = .bool true := hk.v 32 (by kernel_rfl)
                      have e41 : act.tmps[41]?.getD undef = .bool false := hk.v 41 (by kernel_rfl)
                      clear hk
                      go_simp
                      exact hK _ _ (Ext.refl _) (fun d hd => by cases hd; rfl)
                    · intro act W2 hk
                      refine Flow.does_intro rfl (fun Kq hK => ?_)
                      have e29 : act.tmps[29]?.getD undef = .bool false := hk.v 29 (by kernel_rfl)
                      have e42 : act.tmps[42]?.getD undef = .bool false := hk.v 42 (by kernel_rfl)
                      clear hk
                      go_simp
                      exact hK _ _ (Ext.refl _) (fun d hd => by cases hd; rfl)
                  · intro act W2 he
                    have hxW2 := Hd.mk ((Ext.drew W0).trans he.ext)
                    obtain ⟨us, hA, hF⟩ := he.out [22, 23, 24, 25, 26, 27, 28, 29, 30, 31, 32, 33, 34, 35, 36, 37, 38, 39, 40, 41, 42, 43] (by kernel_rfl)
                    simp only [Flow.fillL, List.contains_cons, List.contains_nil, Nat.reduceBEq, Bool.or_false, Bool.false_or, Bool.or_true, Bool.true_or, ↓reduceIte, Nat.reduceAdd, Bool.false_eq_true] at hA
                    subst hA
                    have f43 : us 43 = .bool false := hF 43 (by simp)
                    clear hF he
                    rw [f43]
                    clear f43
                    refine (show wpList _ _ _ [] _ _ from ?_)
                    go_wp2_with fail
                    go_roundg (l.length + 1 - (j + 1))
                    case measure => have := hq.out; omega
                    case rel => exact ⟨j + 1, by omega, ⟨rfl⟩, by go_num, ⟨by rw [hI.out, hdrop.out, hs, hprev]; simp [hle]⟩, ⟨hxr.out.trans hxW2.out⟩⟩
                | false =>
                  have hr0 : r = false := by rw [hI.out, hdrop.out, hs, hprev]; simp [hle]
                  subst hr0
                  refine Flow.wp_region_flow_l (fun qq => match qq with
                    | 22 => SP.eq (.agg #[.string n, .string k, .int .i64 0, .int .u64 0, .string ⟨#[]⟩, .slice (some ⟨b1, o1, none⟩) l.length c1])
                    | 23 => SP.eq (.bool false)
                    | 24 => SP.eq (.bool false)
                    | 25 => SP.eq (.agg #[.string x.name, .string x.key, .int .i64 x.kind, .int .u64 x.num, .string x.text, .slice K3 x.kids.length c3])
                    | 26 => SP.eq (.bool true)
                    | 27 => SP.eq (.bool false)
                    | 28 => SP.eq (.bool false)
                    | 29 => SP.eq (.bool false)
                    | 30 => SP.eq (.int .i64 (j : Nat))
                    | 31 => SP.eq (.bool true)
                    | 32 => SP.eq (.bool true)
                    | 33 => SP.eq (.pointer (some ⟨pA, 5, none⟩))
                    | 34 => SP.eq (.slice (some ⟨b1, o1, none⟩) l.length c1)
                    | 35 => SP.eq (.int .i64 (j : Nat))
                    | 36 => SP.eq (.int .i64 (p : Nat))
                    | 37 => SP.eq (.pointer (some ⟨b1, o1 + p * 6, none⟩))
                    | 38 => SP.eq (.agg #[.string y.name, .string y.key, .int .i64 y.kind, .int .u64 y.num, .string y.text, .slice K4 y.kids.length c4])
                    | 39 => SP.eq (.agg #[.string x.name, .string x.key, .int .i64 x.kind, .int .u64 x.num, .string x.text, .slice K3 x.kids.length c3])
                    | 40 => SP.eq (.bool false)
                    | 41 => SP.eq (.bool true)
                    | 42 => SP.eq (.bool true)
                    | 43 => SP.eq (.bool true)
                    | _ => SP.any) 22 (by kernel_rfl) 45 rfl (by kernel_rfl) ?_ ?_
                  · skip
                    refine ⟨?_, ?_, ?_, ?_, ?_, ?_, ?_, ?_, ?_, ?_, ?_, ?_, ?_, ?_, ?_, ?_, ?_, ?_, ?_, ?_, ?_, ?_, trivial⟩
                    · intro act W2 hk
                      refine Flow.does_intro rfl (fun Kq hK => ?_)
                      have e1 : act.tmps[1]?.getD undef = .pointer (some ⟨pA, 0, none⟩) := hk.o 1 (by kernel_rfl)
                      have g := ((kA2.out).ext ((Ext.drew W0).trans hk.ext)).cell
                      clear hk
                      go_simp
                      exact hK _ _ (Ext.refl _) (fun d hd => by cases hd; rfl)
                    · intro act W2 hk
                      refine Flow.does_intro rfl (fun Kq hK => ?_)
                      have e22 : act.tmps[22]?.getD undef = .agg #[.string n, .string k, .int .i64 0, .int .u64 0, .string ⟨#[]⟩, .slice (some ⟨b1, o1, none⟩) l.length c1] := hk.v 22 (by kernel_rfl)
                      clear hk
                      go_simp
                      refine Calls.mono (hleaf.out _) ?_
                      rintro e W3 ⟨rfl, hx⟩
                      exact hK _ _ hx (fun d hd => by cases hd; rfl)
                    · intro act W2 hk
                      refine Flow.does_intro rfl (fun Kq hK => ?_)
                      have e23 : act.tmps[23]?.getD undef = .bool false := hk.v 23 (by kernel_rfl)
                      clear hk
                      go_simp
                      exact hK _ _ (Ext.refl _) (fun d hd => by cases hd; rfl)
                    · intro act W2 hk
                      have eg : act.tmps[24]?.getD undef = .bool false := hk.v 24 (by kernel_rfl)
                      refine Flow.does_intro (wanted_yes rfl rfl eg) (fun Kq hK => ?_)
                      clear eg
                      have e4 : act.tmps[4]?.getD undef = .pointer (some ⟨gB, 0, none⟩) := hk.o 4 (by kernel_rfl)
                      have g := ((kB.out).ext ((Ext.drew W0).trans hk.ext)).cell
                      clear hk
                      go_simp
                      exact hK _ _ (Ext.refl _) (fun d hd => by cases hd; rfl)
                    · intro act W2 hk
                      have eg : act.tmps[24]?.getD undef = .bool false := hk.v 24 (by kernel_rfl)
                      refine Flow.does_intro (wanted_yes rfl rfl eg) (fun Kq hK => ?_)
                      clear eg
                      have e25 : act.tmps[25]?.getD undef = .agg #[.string x.name, .string x.key, .int .i64 x.kind, .int .u64 x.num, .string x.text, .slice K3 x.kids.length c3] := hk.v 25 (by kernel_rfl)
                      have hx0 := (Ext.drew W0).trans hk.ext
                      clear hk
                      go_simp
                      refine Calls.mono (hcall.out _ (kxx.out.trans hx0)) ?_
                      rintro e W3 ⟨rfl, hx⟩
                      exact hK _ _ hx (fun d hd => by cases hd; exact congrArg Value.bool hs)
                    · intro act W2 hk
                      have eg : act.tmps[24]?.getD undef = .bool false := hk.v 24 (by kernel_rfl)
                      refine Flow.does_intro (wanted_yes rfl rfl eg) (fun Kq hK => ?_)
                      clear eg
                      have e26 : act.tmps[26]?.getD undef = .bool true := hk.v 26 (by kernel_rfl)
                      clear hk
                      go_simp
                      exact hK _ _ (Ext.refl _) (fun d hd => by cases hd; rfl)
                    · intro act W2 hk
                      refine Flow.does_intro rfl (fun Kq hK => ?_)
                      have e24 : act.tmps[24]?.getD undef = .bool false := hk.v 24 (by kernel_rfl)
                      have e27 : act.tmps[27]?.getD undef = .bool false := hk.v 27 (by kernel_rfl)
                      clear hk
                      go_simp
                      exact hK _ _ (Ext.refl _) (fun d hd => by cases hd; rfl)
                    · intro act W2 hk
                      refine Flow.does_intro rfl (fun Kq hK => ?_)
                      have e28 : act.tmps[28]?.getD undef = .bool false := hk.v 28 (by kernel_rfl)
                      clear hk
                      go_simp
                      exact hK _ _ (Ext.refl _) (fun d hd => by cases hd; rfl)
                    · intro act W2 hk
                      have eg : act.tmps[29]?.getD undef = .bool false := hk.v 29 (by kernel_rfl)
                      refine Flow.does_intro (wanted_yes rfl rfl eg) (fun Kq hK => ?_)
                      clear eg
                      have e3 : act.tmps[3]?.getD undef = .int .i64 (j : Nat) := hk.o 3 (by kernel_rfl)
                      clear hk
                      go_simp
                      exact hK _ _ (Ext.refl _) (fun d hd => by cases hd; rfl)
                    · intro act W2 hk
                      have eg : act.tmps[29]?.getD undef = .bool false := hk.v 29 (by kernel_rfl)
                      refine Flow.does_intro (wanted_yes rfl rfl eg) (fun Kq hK => ?_)
                      clear eg
                      have e30 : act.tmps[30]?.getD undef = .int .i64 (j : Nat) := hk.v 30 (by kernel_rfl)
                      clear hk
                      go_simp
                      exact hK _ _ (Ext.refl _) (fun d hd => by cases hd; have h1 := hp.out; simp [SP.eq]; omega)
                    · intro act W2 hk
                      have eg : act.tmps[29]?.getD undef = .bool false := hk.v 29 (by kernel_rfl)
                      refine Flow.does_intro (wanted_yes rfl rfl eg) (fun Kq hK => ?_)
                      clear eg
                      have e31 : act.tmps[31]?.getD undef = .bool true := hk.v 31 (by kernel_rfl)
                      clear hk
                      go_simp
                      exact hK _ _ (Ext.refl _) (fun d hd => by cases hd; rfl)
                    · intro act W2 hk
                      have eg : act.tmps[32]?.getD undef = .bool true := hk.v 32 (by kernel_rfl)
                      refine Flow.does_intro (wanted_yes rfl rfl eg) (fun Kq hK => ?_)
                      clear eg
                      have e1 : act.tmps[1]?.getD undef = .pointer (some ⟨pA, 0, none⟩) := hk.o 1 (by kernel_rfl)
                      clear hk
                      go_simp
                      exact hK _ _ (Ext.refl _) (fun d hd => by cases hd; rfl)
                    · intro act W2 hk
                      have eg : act.tmps[32]?.getD undef = .bool true := hk.v 32 (by kernel_rfl)
                      refine Flow.does_intro (wanted_yes rfl rfl eg) (fun Kq hK => ?_)
                      clear eg
                      have e33 : act.tmps[33]?.getD undef = .pointer (some ⟨pA, 5, none⟩) := hk.v 33 (by kernel_rfl)
                      have g := ((kA2.out).ext ((Ext.drew W0).trans hk.ext)).cell
                      clear hk
                      go_simp
                      exact hK _ _ (Ext.refl _) (fun d hd => by cases hd; rfl)
                    · intro act W2 hk
                      have eg : act.tmps[32]?.getD undef = .bool true := hk.v 32 (by kernel_rfl)
                      refine Flow.does_intro (wanted_yes rfl rfl eg) (fun Kq hK => ?_)
                      clear eg
                      have e3 : act.tmps[3]?.getD undef = .int .i64 (j : Nat) := hk.o 3 (by kernel_rfl)
                      clear hk
                      go_simp
                      exact hK _ _ (Ext.refl _) (fun d hd => by cases hd; rfl)
                    · intro act W2 hk
                      have eg : act.tmps[32]?.getD undef = .bool true := hk.v 32 (by kernel_rfl)
                      refine Flow.does_intro (wanted_yes rfl rfl eg) (fun Kq hK => ?_)
                      clear eg
                      have e35 : act.tmps[35]?.getD undef = .int .i64 (j : Nat) := hk.v 35 (by kernel_rfl)
                      clear hk
                      go_simp
                      exact hK _ _ (Ext.refl _) (fun d hd => by cases hd; have h1 := hp.out; have h2 := hpl.out; simp [SP.eq]; first | omega | (rw [IntKind.wrap_i64]; omega))
                    · intro act W2 hk
                      have eg : act.tmps[32]?.getD undef = .bool true := hk.v 32 (by kernel_rfl)
                      refine Flow.does_intro (wanted_yes rfl rfl eg) (fun Kq hK => ?_)
                      clear eg
                      have e34 : act.tmps[34]?.getD undef = .slice (some ⟨b1, o1, none⟩) l.length c1 := hk.v 34 (by kernel_rfl)
                      have e36 : act.tmps[36]?.getD undef = .int .i64 (p : Nat) := hk.v 36 (by kernel_rfl)
                      have hpl2 := hpl.out
                      clear hk
                      go_simp
                      exact hK _ _ (Ext.refl _) (fun d hd => by cases hd; rfl)
                    · intro act W2 hk
                      have eg : act.tmps[32]?.getD undef = .bool true := hk.v 32 (by kernel_rfl)
                      refine Flow.does_intro (wanted_yes rfl rfl eg) (fun Kq hK => ?_)
                      clear eg
                      have e37 : act.tmps[37]?.getD undef = .pointer (some ⟨b1, o1 + p * 6, none⟩) := hk.v 37 (by kernel_rfl)
                      have g0 := Ext.cell ((Ext.drew W0).trans hk.ext) ((kcy.out) 0 _ rfl)
                      rw [Nat.add_zero] at g0
                      have g1 := Ext.cell ((Ext.drew W0).trans hk.ext) ((kcy.out) 1 _ rfl)
                      have g2 := Ext.cell ((Ext.drew W0).trans hk.ext) ((kcy.out) 2 _ rfl)
                      have g3 := Ext.cell ((Ext.drew W0).trans hk.ext) ((kcy.out) 3 _ rfl)
                      have g4 := Ext.cell ((Ext.drew W0).trans hk.ext) ((kcy.out) 4 _ rfl)
                      have g5 := Ext.cell ((Ext.drew W0).trans hk.ext) ((kcy.out) 5 _ rfl)
                      clear hk
                      go_simp
                      exact hK _ _ (Ext.refl _) (fun d hd => by cases hd; rfl)
                    · intro act W2 hk
                      have eg : act.tmps[32]?.getD undef = .bool true := hk.v 32 (by kernel_rfl)
                      refine Flow.does_intro (wanted_yes rfl rfl eg) (fun Kq hK => ?_)
                      clear eg
                      have e4 : act.tmps[4]?.getD undef = .pointer (some ⟨gB, 0, none⟩) := hk.o 4 (by kernel_rfl)
                      have g := ((kB.out).ext ((Ext.drew W0).trans hk.ext)).cell
                      clear hk
                      go_simp
                      exact hK _ _ (Ext.refl _) (fun d hd => by cases hd; rfl)
                    · intro act W2 hk
                      have eg : act.tmps[32]?.getD undef = .bool true := hk.v 32 (by kernel_rfl)
                      refine Flow.does_intro (wanted_yes rfl rfl eg) (fun Kq hK => ?_)
                      clear eg
                      have e38 : act.tmps[38]?.getD undef = .agg #[.string y.name, .string y.key, .int .i64 y.kind, .int .u64 y.num, .string y.text, .slice K4 y.kids.length c4] := hk.v 38 (by kernel_rfl)
                      have e39 : act.tmps[39]?.getD undef = .agg #[.string x.name, .string x.key, .int .i64 x.kind, .int .u64 x.num, .string x.text, .slice K3 x.kids.length c3] := hk.v 39 (by kernel_rfl)
                      clear hk
                      go_simp
                      refine Calls.mono (hless.out _) ?_
                      rintro e W3 ⟨rfl, hx⟩
                      exact hK _ _ hx (fun d hd => by cases hd; exact congrArg Value.bool hle)
                    · intro act W2 hk
                      have eg : act.tmps[32]?.getD undef = .bool true := hk.v 32 (by kernel_rfl)
                      refine Flow.does_intro (wanted_yes rfl rfl eg) (fun Kq hK => ?_)
                      clear eg
                      have e40 : act.tmps[40]?.getD undef = .bool false := hk.v 40 (by kernel_rfl)
                      clear hk
                      go_simp
                      exact hK _ _ (Ext.refl _) (fun d hd => by cases hd; rfl)
                    · intro act W2 hk
                      have eg : act.tmps[29]?.getD undef = .bool false := hk.v 29 (by kernel_rfl)
                      refine Flow.does_intro (wanted_yes rfl rfl eg) (fun Kq hK => ?_)
                      clear eg
                      have e32 : act.tmps[32]?.getD undef = .bool true := hk.v 32 (by kernel_rfl)
                      have e41 : act.tmps[41]?.getD undef = .bool true := hk.v 41 (by kernel_rfl)
                      clear hk
                      go_simp
                      exact hK _ _ (Ext.refl _) (fun d hd => by cases hd; rfl)
                    · intro act W2 hk
                      refine Flow.does_intro rfl (fun Kq hK => ?_)
                      have e29 : act.tmps[29]?.getD undef = .bool false := hk.v 29 (by kernel_rfl)
                      have e42 : act.tmps[42]?.getD undef = .bool true := hk.v 42 (by kernel_rfl)
                      clear hk
                      go_simp
                      exact hK _ _ (Ext.refl _) (fun d hd => by cases hd; rfl)
                  · intro act W2 he
                    have hxW2 := Hd.mk ((Ext.drew W0).trans he.ext)
                    obtain ⟨us, hA, hF⟩ := he.out [22, 23, 24, 25, 26, 27, 28, 29, 30, 31, 32, 33, 34, 35, 36, 37, 38, 39, 40, 41, 42, 43] (by kernel_rfl)
                    simp only [Flow.fillL, List.contains_cons, List.contains_nil, Nat.reduceBEq, Bool.or_false, Bool.false_or, Bool.or_true, Bool.true_or, ↓reduceIte, Nat.reduceAdd, Bool.false_eq_true] at hA
                    subst hA
                    have f43 : us 43 = .bool true := hF 43 (by simp)
                    clear hF he
                    rw [f43]
                    clear f43
                    refine (show wpList _ _ _ [] _ _ from ?_)
                    go_wp2_with fail
                    go_ret
                    exact ⟨rfl, kxx.out.trans hxW2.out⟩
          · have hjl : j = l.length := by omega
            subst hjl
            have hr0 : r = true := by rw [hI.out, List.drop_length]; cases prevOf l l.length <;> rfl
            subst hr0
            go_wp2_with fail
            go_ret
            exact ⟨rfl, kx.out.trans hxr.out⟩
        · have hr : r = false := by rw [hright]; simp [h2]
          subst hr
          have h2' : ¬ t.toList = [] := fun h => h2 (of_decide_eq_true (by rw [← str_eq, h]; kernel_rfl))
          clear hright
          go_enter Try.func62, Try.ntmps62
          go_wp2_with fail
          have kx := Hd.mk (Ext.alloc w (.cells #[.string n, .string k, .int .i64 0, .int .u64 0, .string t, .slice K1 l.length c1] 54))
          have kA := Hd.mk (Blk.new w #[.string n, .string k, .int .i64 0, .int .u64 0, .string t, .slice K1 l.length c1] 54)
          refine Calls.mono (hleaf.out _) ?_
          rintro e w1 ⟨rfl, hx⟩
          have gA := (kA.out.ext hx).cell
          go_wp2_with fail
          go_ret
          exact ⟨rfl, kx.out.trans hx⟩
      · have hr : r = false := by rw [hright]; simp [h1]
        subst hr
        clear hright
        go_enter Try.func62, Try.ntmps62
        go_wp2_with fail
        have kx := Hd.mk (Ext.alloc w (.cells #[.string n, .string k, .int .i64 0, .int .u64 m, .string t, .slice K1 l.length c1] 54))
        have kA := Hd.mk (Blk.new w #[.string n, .string k, .int .i64 0, .int .u64 m, .string t, .slice K1 l.length c1] 54)
        refine Calls.mono (hleaf.out _) ?_
        rintro e w1 ⟨rfl, hx⟩
        have gA := (kA.out.ext hx).cell
        go_wp2_with fail
        go_ret
        exact ⟨rfl, kx.out.trans hx⟩
    · have hd0 : (d != 0) = true := by simpa using h0
      have hr : r = l.isEmpty := by rw [hright, if_neg h0]
      subst hr
      clear hright
      rw [hd0] at hleaf
      go_enter Try.func62, Try.ntmps62
      go_wp2_with fail
      have kx := Hd.mk (Ext.alloc w (.cells #[.string n, .string k, .int .i64 d, .int .u64 m, .string t, .slice K1 l.length c1] 54))
      have kA := Hd.mk (Blk.new w #[.string n, .string k, .int .i64 d, .int .u64 m, .string t, .slice K1 l.length c1] 54)
      generalize w.heap.size = pA at *
      generalize w.alloc _ = W at *
      refine Calls.mono (hleaf.out _) ?_
      rintro e w1 ⟨rfl, hx⟩
      replace kx := Hd.mk (kx.out.trans hx)
      replace kA := Hd.mk (kA.out.ext hx)
      clear hx
      have gA := kA.out.cell
      cases l with
      | nil =>
        go_wp2_with fail
        refine wp_loop_rounds 1 ?_
        rw [rounds_succ]
        go_wp2_with fail
        go_ret
        exact ⟨rfl, kx.out⟩
      | cons x l =>
        obtain ⟨b1, o1, ck, rfl, _, hrk, hck⟩ := kr1.out.head
        obtain ⟨K3, c3, rfl, _⟩ := hrk.row
        simp only [cT] at hck
        obtain ⟨e0, e1, e2, e3, e4, e5⟩ := six kx.out hck
        go_wp2_with fail
        refine wp_loop_rounds 1 ?_
        rw [rounds_succ]
        go_wp2_with fail
        have hxa := Ext.alloc w1 (.cells #[.string x.name, .string x.key, .int .i64 x.kind, .int .u64 x.num, .string x.text, .slice K3 x.kids.length c3] 54)
        replace kx := Hd.mk (kx.out.trans hxa)
        have kA2 := Hd.mk (kA.out.ext hxa)
        clear hxa e0 e1 e2 e3 e4 e5 gA kA
        generalize w1.heap.size = gB at *
        generalize w1.alloc _ = W0 at *
        refine Flow.wp_region_flow_l (fun qq => match qq with
          | 22 => SP.eq (.agg #[.string n, .string k, .int .i64 d, .int .u64 m, .string t, .slice (some ⟨b1, o1, none⟩) (x :: l).length c1])
          | 23 => SP.eq (.bool true)
          | 24 => SP.eq (.bool true)
          | 25 => SP.eq (undef)
          | 26 => SP.eq (undef)
          | 27 => SP.eq (undef)
          | 28 => SP.eq (.bool true)
          | 29 => SP.eq (.bool true)
          | 30 => SP.eq (undef)
          | 31 => SP.eq (undef)
          | 32 => SP.eq (undef)
          | 33 => SP.eq (undef)
          | 34 => SP.eq (undef)
          | 35 => SP.eq (undef)
          | 36 => SP.eq (undef)
          | 37 => SP.eq (undef)
          | 38 => SP.eq (undef)
          | 39 => SP.eq (undef)
          | 40 => SP.eq (undef)
          | 41 => SP.eq (undef)
          | 42 => SP.eq (undef)
          | 43 => SP.eq (.bool true)
          | _ => SP.any) 22 (by kernel_rfl) 45 rfl (by kernel_rfl) ?_ ?_
        · skip
          refine ⟨?_, ?_, ?_, ?_, ?_, ?_, ?_, ?_, ?_, ?_, ?_, ?_, ?_, ?_, ?_, ?_, ?_, ?_, ?_, ?_, ?_, ?_, trivial⟩
          · intro act W2 hk
            refine Flow.does_intro rfl (fun Kq hK => ?_)
            have e1 : act.tmps[1]?.getD undef = .pointer (some ⟨pA, 0, none⟩) := hk.o 1 (by kernel_rfl)
            have g := ((kA2.out).ext ((Ext.drew W0).trans hk.ext)).cell
            clear hk
            go_simp
            exact hK _ _ (Ext.refl _) (fun d hd => by cases hd; rfl)
          · intro act W2 hk
            refine Flow.does_intro rfl (fun Kq hK => ?_)
            have e22 : act.tmps[22]?.getD undef = .agg #[.string n, .string k, .int .i64 d, .int .u64 m, .string t, .slice (some ⟨b1, o1, none⟩) (x :: l).length c1] := hk.v 22 (by kernel_rfl)
            clear hk
            go_simp
            refine Calls.mono (hleaf.out _) ?_
            rintro e W3 ⟨rfl, hx⟩
            exact hK _ _ hx (fun d hd => by cases hd; rfl)
          · intro act W2 hk
            refine Flow.does_intro rfl (fun Kq hK => ?_)
            have e23 : act.tmps[23]?.getD undef = .bool true := hk.v 23 (by kernel_rfl)
            clear hk
            go_simp
            exact hK _ _ (Ext.refl _) (fun d hd => by cases hd; rfl)
          · intro act W2 hk
            have eg : act.tmps[24]?.getD undef = .bool true := hk.v 24 (by kernel_rfl)
            exact Flow.does_skip (wanted_no rfl rfl eg) (fun d hd => by cases hd; rfl)
          · intro act W2 hk
            have eg : act.tmps[24]?.getD undef = .bool true := hk.v 24 (by kernel_rfl)
            exact Flow.does_skip (wanted_no rfl rfl eg) (fun d hd => by cases hd; rfl)
          · intro act W2 hk
            have eg : act.tmps[24]?.getD undef = .bool true := hk.v 24 (by kernel_rfl)
            exact Flow.does_skip (wanted_no rfl rfl eg) (fun d hd => by cases hd; rfl)
          · intro act W2 hk
            refine Flow.does_intro rfl (fun Kq hK => ?_)
            have e24 : act.tmps[24]?.getD undef = .bool true := hk.v 24 (by kernel_rfl)
            clear hk
            go_simp
            exact hK _ _ (Ext.refl _) (fun d hd => by cases hd; rfl)
          · intro act W2 hk
            refine Flow.does_intro rfl (fun Kq hK => ?_)
            have e28 : act.tmps[28]?.getD undef = .bool true := hk.v 28 (by kernel_rfl)
            clear hk
            go_simp
            exact hK _ _ (Ext.refl _) (fun d hd => by cases hd; rfl)
          · intro act W2 hk
            have eg : act.tmps[29]?.getD undef = .bool true := hk.v 29 (by kernel_rfl)
            exact Flow.does_skip (wanted_no rfl rfl eg) (fun d hd => by cases hd; rfl)
          · intro act W2 hk
            have eg : act.tmps[29]?.getD undef = .bool true := hk.v 29 (by kernel_rfl)
            exact Flow.does_skip (wanted_no rfl rfl eg) (fun d hd => by cases hd; rfl)
          · intro act W2 hk
            have eg : act.tmps[29]?.getD undef = .bool true := hk.v 29 (by kernel_rfl)
            exact Flow.does_skip (wanted_no rfl rfl eg) (fun d hd => by cases hd; rfl)
          · intro act W2 hk
            have eg : act.tmps[32]?.getD undef = undef := hk.v 32 (by kernel_rfl)
            exact Flow.does_skip (wanted_off rfl rfl eg) (fun d hd => by cases hd; rfl)
          · intro act W2 hk
            have eg : act.tmps[32]?.getD undef = undef := hk.v 32 (by kernel_rfl)
            exact Flow.does_skip (wanted_off rfl rfl eg) (fun d hd => by cases hd; rfl)
          · intro act W2 hk
            have eg : act.tmps[32]?.getD undef = undef := hk.v 32 (by kernel_rfl)
            exact Flow.does_skip (wanted_off rfl rfl eg) (fun d hd => by cases hd; rfl)
          · intro act W2 hk
            have eg : act.tmps[32]?.getD undef = undef := hk.v 32 (by kernel_rfl)
            exact Flow.does_skip (wanted_off rfl rfl eg) (fun d hd => by cases hd; rfl)
          · intro act W2 hk
            have eg : act.tmps[32]?.getD undef = undef := hk.v 32 (by kernel_rfl)
            exact Flow.does_skip (wanted_off rfl rfl eg) (fun d hd => by cases hd; rfl)
          · intro act W2 hk
            have eg : act.tmps[32]?.getD undef = undef := hk.v 32 (by kernel_rfl)
            exact Flow.does_skip (wanted_off rfl rfl eg) (fun d hd => by cases hd; rfl)
          · intro act W2 hk
            have eg : act.tmps[32]?.getD undef = undef := hk.v 32 (by kernel_rfl)
            exact Flow.does_skip (wanted_off rfl rfl eg) (fun d hd => by cases hd; rfl)
          · intro act W2 hk
            have eg : act.tmps[32]?.getD undef = undef := hk.v 32 (by kernel_rfl)
            exact Flow.does_skip (wanted_off rfl rfl eg) (fun d hd => by cases hd; rfl)
          · intro act W2 hk
            have eg : act.tmps[32]?.getD undef = undef := hk.v 32 (by kernel_rfl)
            exact Flow.does_skip (wanted_off rfl rfl eg) (fun d hd => by cases hd; rfl)
          · intro act W2 hk
            have eg : act.tmps[29]?.getD undef = .bool true := hk.v 29 (by kernel_rfl)
            exact Flow.does_skip (wanted_no rfl rfl eg) (fun d hd => by cases hd; rfl)
          · intro act W2 hk
            refine Flow.does_intro rfl (fun Kq hK => ?_)
            have e29 : act.tmps[29]?.getD undef = .bool true := hk.v 29 (by kernel_rfl)
            clear hk
            go_simp
            exact hK _ _ (Ext.refl _) (fun d hd => by cases hd; rfl)
        · intro act W2 he
          have hxW2 := Hd.mk ((Ext.drew W0).trans he.ext)
          obtain ⟨us, hA, hF⟩ := he.out [22, 23, 24, 25, 26, 27, 28, 29, 30, 31, 32, 33, 34, 35, 36, 37, 38, 39, 40, 41, 42, 43] (by kernel_rfl)
          simp only [Flow.fillL, List.contains_cons, List.contains_nil, Nat.reduceBEq, Bool.or_false, Bool.false_or, Bool.or_true, Bool.true_or, ↓reduceIte, Nat.reduceAdd, Bool.false_eq_true] at hA
          subst hA
          have f43 : us 43 = .bool true := hF 43 (by simp)
          clear hF he
          rw [f43]
          clear f43
          refine (show wpList _ _ _ [] _ _ from ?_)
          go_wp2_with fail
          go_ret
          exact ⟨rfl, kx.out.trans hxW2.out⟩
end Go.Proofs.Ytgkgedjmnbjalaa
set_option linter.unusedSimpArgs false
namespace Go.Proofs.Ytgkgedjmnbjalaa
open Go.RowKit Go.Sort
def SymOK (L : Nat) : Prop := ∀ (pre s1 s2 post : List It) (sp : List Value) (g cap a m b n : Nat) (w : World), Blk w g (rowI (pre ++ (s1 ++ s2) ++ post) ++ sp) 54 → a = pre.length → m = a + s1.length → b = m + s2.length → n = (pre ++ (s1 ++ s2) ++ post).length → n ≤ cap → n ≤ L → 0 < s1.length → 0 < s2.length → SrtLe s1 → SrtLe s2 →
  Calls Try.prog 157 #[.slice (some ⟨g, 0, none⟩) n cap, .int .i64 a, .int .i64 m, .int .i64 b, .func (.func 116) #[] #[]] w fun e w' => e = .returned (.tuple #[]) ∧ (∃ s, SrtLe s ∧ SameF (s1 ++ s2) s ∧ s.length = (s1 ++ s2).length ∧ Blk w' g (rowI (pre ++ s ++ post) ++ sp) 54) ∧ w.grownBy w' (some g)
theorem srt_nil : SrtLe [] := List.Pairwise.nil
theorem blk_out {l : List It} {x y : Nat} (h : l.length ≤ x) : blkI l x y = [] := by unfold blkI; rw [List.drop_of_length_le h, List.take_nil]
theorem turn_blk {l : List It} {a c : Nat} (t : List It) (ht : t.length = (blkI l a c).length) (ha : a ≤ l.length) :
    (l.take a ++ t ++ l.drop (a + c)).length = l.length ∧ (∀ x y, x + y ≤ a → blkI (l.take a ++ t ++ l.drop (a + c)) x y = blkI l x y) ∧ (∀ x y, a + (blkI l a c).length ≤ x → blkI (l.take a ++ t ++ l.drop (a + c)) x y = blkI l x y) ∧ (∀ y, y = t.length → blkI (l.take a ++ t ++ l.drop (a + c)) a y = t) ∧ (SameF (blkI l a c) t → SameF l (l.take a ++ t ++ l.drop (a + c))) := by
  have hs := blk_split l a c
  have hta : (l.take a).length = a := by rw [List.length_take]; omega
  refine ⟨?_, fun x y h => ?_, fun x y h => ?_, fun y h => blk_it hta.symm h, fun h => ?_⟩
  · have h1 := congrArg List.length hs
    simp only [List.length_append] at h1 ⊢
    omega
  · have := blk_before (s := t) (s' := blkI l a c) (post := l.drop (a + c)) (show x + y ≤ (l.take a).length by omega)
    rw [this, ← hs]
  · have := blk_behind (pre := l.take a) (y := y) (post := l.drop (a + c)) ht (show (l.take a).length + t.length ≤ x by omega)
    rw [this, ← hs]
  · have := h.seg (l.take a) (l.drop (a + c))
    rw [← hs] at this
    exact this
theorem isort_blk (l : List It) : (isortG ltI l).length = l.length ∧ SrtLe (isortG ltI l) ∧ SameF l (isortG ltI l) := ⟨isortG_len _ _, isortG_srt l⟩
set_option maxRecDepth 100000 in
set_option maxHeartbeats 1500000 in
theorem stable_sort (L : Nat) (hL : L ≤ 1048576) (H : 20 < L → SymOK L) (l0 : List It) (sp : List Value) (g cap n : Nat) (w : World) (hb : Blk w g (rowI l0 ++ sp) 54) (hn : n = l0.length) (hcap : n ≤ cap) (hnL : n ≤ L) :
    Calls Try.prog 146 #[.slice (some ⟨g, 0, none⟩) n cap, .int .i64 n, .func (.func 116) #[] #[]] w fun e w' => e = .returned (.tuple #[]) ∧ Blk w' g (rowI (isortG ltI l0) ++ sp) 54 ∧ w.grownBy w' (some g) := by
  have hnn : n ≤ 1048576 := Nat.le_trans hnL hL
  replace hn := Hd.mk hn
  replace hb := Hd.mk hb
  replace hcap := Hd.mk hcap
  replace hnL := Hd.mk hnL
  replace H := Hd.mk H
  clear hL
  go_enter Try.func146, Try.ntmps146
  go_wp2_with fail
  go_loopg [7, 8] (n + 1) (fun q sa sb wr => ∃ k a b : Nat, Hd (a = 20 * k) ∧ b = a + 20 ∧ a ≤ n ∧ Hd (q = n + 1 - a) ∧ sa = .int .i64 a ∧ sb = .int .i64 ((a + 20 : Nat)) ∧ ∃ l : List It, Hd (l.length = n) ∧ Hd (SameF l0 l) ∧ Hd (∀ q, q < k → SrtLe (blkI l (20 * q) 20)) ∧ Hd (Blk wr g (rowI l ++ sp) 54) ∧ Hd (w.grownBy wr (some g)))
  case atStart => exact ⟨0, 0, 20, ⟨rfl⟩, rfl, by omega, ⟨rfl⟩, rfl, rfl, l0, ⟨hn.out.symm⟩, ⟨SameF.refl _⟩, ⟨fun q h => by omega⟩, hb, ⟨grown_ext (Ext.refl _)⟩⟩
  case round =>
  clear hb
  obtain ⟨k, a, b, hak, hab, han, hq, rfl, rfl, l, hl, hsf, hbs, hrow, hgr⟩ := hrel
  rw [← hab]
  by_cases hlt : b ≤ n
  · have hlt0 : (b : Int) ≤ (n : Int) := by omega
    obtain ⟨t1, t2, t3⟩ := isort_blk (blkI l a 20)
    have hla : (blkI l a 20).length = 20 := by rw [blk_len, hl.out]; omega
    obtain ⟨e1, e2, e3, e4, e5⟩ := turn_blk (l := l) (a := a) (c := 20) (isortG ltI (blkI l a 20)) t1 (by rw [hl.out]; exact han)
    have hc := ins_sort (l.take a) (blkI l a 20) (l.drop (a + 20)) sp g cap a b n wr (by rw [← blk_split]; exact hrow.out) (by rw [List.length_take, hl.out]; omega) (by rw [List.length_take, hl.out, hla]; omega) (by rw [← blk_split, hl.out]) hcap.out hnn
    replace hla := Hd.mk hla
    replace t1 := Hd.mk t1
    replace t2 := Hd.mk t2
    replace e1 := Hd.mk e1
    replace e2 := Hd.mk e2
    replace e4 := Hd.mk e4
    replace e5 := Hd.mk (e5 t3)
    replace hab := Hd.mk hab
    clear t3 e3
    generalize hrs : isortG ltI (blkI l a 20) = rs at *
    replace hrs := Hd.mk hrs
    go_wp2_with fail
    refine Calls.mono hc ?_
    rintro e w2 ⟨rfl, hrow2, hgr2⟩
    replace hrow2 := Hd.mk hrow2
    replace hgr := Hd.mk (grown_trans hgr.out hgr2)
    clear hgr2 hc hrow
    go_wp2_with fail
    go_roundg (n + 1 - b)
    case measure => have := hq.out; have := hab.out; omega
    case rel => exact ⟨k + 1, b, b + 20, ⟨by rw [hab.out, hak.out]; omega⟩, rfl, hlt, ⟨rfl⟩, rfl, by go_num, _, ⟨by rw [e1.out, hl.out]⟩, ⟨hsf.out.trans e5.out⟩, ⟨fun q hq => by
      by_cases hqk : q = k
      · subst hqk
        rw [← hak.out, e4.out 20 (by rw [t1.out, hla.out])]
        exact t2.out
      · rw [e2.out _ _ (by have := hak.out; omega)]
        exact hbs.out q (by omega)⟩, hrow2, hgr⟩
  · have hlt0 : ¬ (b : Int) ≤ (n : Int) := by omega
    obtain ⟨t1, t2, t3⟩ := isort_blk (blkI l a 20)
    have hla : (blkI l a 20).length = n - a := by rw [blk_len, hl.out]; omega
    obtain ⟨e1, e2, e3, e4, e5⟩ := turn_blk (l := l) (a := a) (c := 20) (isortG ltI (blkI l a 20)) t1 (by rw [hl.out]; exact han)
    have hc := ins_sort (l.take a) (blkI l a 20) (l.drop (a + 20)) sp g cap a n n wr (by rw [← blk_split]; exact hrow.out) (by rw [List.length_take, hl.out]; omega) (by rw [List.length_take, hl.out, hla]; omega) (by rw [← blk_split, hl.out]) hcap.out hnn
    have hbs2 : ∀ q, SrtLe (blkI (l.take a ++ isortG ltI (blkI l a 20) ++ l.drop (a + 20)) (20 * q) 20) := fun q => by
      have h1 := hak.out
      by_cases hqk : q < k
      · rw [e2 _ _ (by omega)]
        exact hbs.out q hqk
      · by_cases hq2 : q = k
        · subst hq2
          have hd : l.drop (a + 20) = [] := List.drop_of_length_le (by rw [hl.out]; omega)
          have : blkI (l.take a ++ isortG ltI (blkI l a 20) ++ l.drop (a + 20)) (20 * q) 20 = isortG ltI (blkI l a 20) := by
            rw [hd, List.append_nil, ← h1]
            unfold blkI
            have hta : (l.take a).length = a := by rw [List.length_take, hl.out]; omega
            rw [List.drop_append, hta, Nat.sub_self, List.drop_of_length_le (by omega), List.drop_zero, List.nil_append]
            refine List.take_of_length_le ?_
            rw [isortG_len, List.length_take]
            omega
          rw [this]
          exact t2
        · rw [blk_out (by rw [e1, hl.out]; omega)]
          exact srt_nil
    replace e1 := Hd.mk (e1.trans hl.out)
    replace e5 := Hd.mk (hsf.out.trans (e5 t3))
    replace hbs2 := Hd.mk hbs2
    clear t1 t2 t3 e2 e3 e4 hla hsf hbs hl hak
    generalize l.take a ++ isortG ltI (blkI l a 20) ++ l.drop (a + 20) = l1 at *
    go_wp2_with fail
    refine Calls.mono hc ?_
    rintro e w2 ⟨rfl, hrow2, hgr2⟩
    replace hrow2 := Hd.mk hrow2
    replace hgr := Hd.mk (grown_trans hgr.out hgr2)
    clear hgr2 hc hrow hq hab hlt hlt0 han
    generalize w2 = V0 at *
    go_wp2_with fail
    go_loopg [6] (n + 1) (fun q sb wr => ∃ bs : Nat, 20 ≤ bs ∧ bs ≤ 2097200 ∧ Hd (n + 1 - bs ≤ q) ∧ sb = .int .i64 bs ∧ ∃ l : List It, Hd (l.length = n) ∧ Hd (SameF l0 l) ∧ Hd (∀ q, SrtLe (blkI l (bs * q) bs)) ∧ Hd (Blk wr g (rowI l ++ sp) 54) ∧ Hd (w.grownBy wr (some g)))
    case atStart => exact ⟨20, Nat.le_refl _, by omega, ⟨by omega⟩, rfl, l1, e1, e5, hbs2, hrow2, hgr⟩
    case round =>
    clear e1 e5 hbs2 hrow2 hgr
    obtain ⟨bs, hbs0, hbsm, hq, rfl, l, hl, hsf, hbs, hrow, hgr⟩ := hrel
    generalize wr = V1 at *
    by_cases hlt : bs < n
    · have hlt0 : (bs : Int) < (n : Int) := by omega
      have hH := Hd.mk (H.out (by have := hnL.out; omega))
      go_wp2_with fail
      go_loopg [7, 8] (n + 1) (fun q sa sb wr => ∃ k a b : Nat, Hd (a = (bs + bs) * k) ∧ Hd (b = a + (bs + bs)) ∧ a ≤ n ∧ Hd (q = n + 1 - a) ∧ sa = .int .i64 a ∧ sb = .int .i64 b ∧ ∃ l : List It, Hd (l.length = n) ∧ Hd (SameF l0 l) ∧ Hd (∀ q, q < k → SrtLe (blkI l ((bs + bs) * q) (bs + bs))) ∧ Hd (∀ q, k + k ≤ q → SrtLe (blkI l (bs * q) bs)) ∧ Hd (Blk wr g (rowI l ++ sp) 54) ∧ Hd (w.grownBy wr (some g)))
      case atStart => exact ⟨0, 0, bs + bs, ⟨by omega⟩, ⟨by omega⟩, by omega, ⟨rfl⟩, rfl, by go_num, l, hl, hsf, ⟨fun q h => by omega⟩, ⟨fun q _ => hbs.out q⟩, hrow, hgr⟩
      case round =>
      clear hl hsf hbs hrow hgr
      obtain ⟨k, a, b, hak, hab, han, hq3, rfl, rfl, l, hl, hsf, hb2, hb1, hrow, hgr⟩ := hrel
      have hkk : bs * (k + k) = a := by rw [hak.out, Nat.add_mul, Nat.mul_add]
      have hkk1 : bs * (k + k + 1) = a + bs := by rw [Nat.mul_add, hkk, Nat.mul_one]
      have hs1 := hb1.out (k + k) (Nat.le_refl _)
      have hs2 := hb1.out (k + k + 1) (by omega)
      rw [hkk] at hs1
      rw [hkk1] at hs2
      have hlow : ∀ q, q < k → (bs + bs) * q + (bs + bs) ≤ a := fun q hqk => by
        have h1 : (bs + bs) * (q + 1) ≤ (bs + bs) * k := Nat.mul_le_mul_left _ hqk
        rw [Nat.mul_add, Nat.mul_one] at h1
        have := hak.out
        omega
      have hhigh : ∀ q, k < q → a + (bs + bs) ≤ (bs + bs) * q := fun q hqk => by
        have h1 : (bs + bs) * (k + 1) ≤ (bs + bs) * q := Nat.mul_le_mul_left _ hqk
        rw [Nat.mul_add, Nat.mul_one] at h1
        have := hak.out
        omega
      have hhigh1 : ∀ q, k + 1 + (k + 1) ≤ q → a + (bs + bs) ≤ bs * q := fun q hqk => by
        have h1 : bs * (k + k + 2) ≤ bs * q := Nat.mul_le_mul_left _ (by omega)
        rw [Nat.mul_add, hkk] at h1
        omega
      generalize wr = V2 at *
      replace hkk := Hd.mk hkk
      clear hkk1
      by_cases hbn : b ≤ n
      · have hbn0 : (b : Int) ≤ (n : Int) := by omega
        have hw1 : IntKind.i64.wrap ((a : Int) + (bs : Int)) = ((a + bs : Nat) : Int) := by have := hab.out; rw [IntKind.wrap_i64]; omega
        have hl1 : (blkI l a bs).length = bs := by rw [blk_len, hl.out]; have := hab.out; omega
        have hl2 : (blkI l (a + bs) bs).length = bs := by rw [blk_len, hl.out]; have := hab.out; omega
        have hspl := blk_split l a (bs + bs)
        rw [blk_two] at hspl
        have hc := hH.out (l.take a) (blkI l a bs) (blkI l (a + bs) bs) (l.drop (a + (bs + bs))) sp g cap a (a + bs) b n V2 (by rw [← hspl]; exact hrow.out) (by rw [List.length_take, hl.out]; omega) (by rw [hl1]) (by rw [hl2]; have := hab.out; omega) (by rw [← hspl, hl.out]) hcap.out hnL.out (by omega) (by omega) hs1 hs2
        have hl12 := Hd.mk (show (blkI l a (bs + bs)).length = bs + bs by rw [blk_len, hl.out]; have := hab.out; omega)
        clear hspl hl1 hl2 hs1 hs2
        replace hlow := Hd.mk hlow
        replace hhigh1 := Hd.mk hhigh1
        clear hhigh
        generalize hmd : a + bs = m at *
        replace hmd := Hd.mk hmd
        go_wp2_with fail
        refine Calls.mono hc ?_
        rintro e w2 ⟨rfl, ⟨s, q1, q2, q3, hrow2⟩, hgr2⟩
        rw [← hmd.out, ← blk_two] at q2 q3
        obtain ⟨e1, e2, e3, e4, e5⟩ := turn_blk (l := l) (a := a) (c := bs + bs) s q3 (by rw [hl.out]; exact han)
        replace hgr := Hd.mk (grown_trans hgr.out hgr2)
        replace hrow2 := Hd.mk hrow2
        replace e1 := Hd.mk (e1.trans hl.out)
        replace e2 := Hd.mk e2
        replace e3 := Hd.mk e3
        replace e4 := Hd.mk (e4 (bs + bs) (by rw [q3, hl12.out]))
        replace e5 := Hd.mk (hsf.out.trans (e5 q2))
        replace q1 := Hd.mk q1
        clear hgr2 hc hrow q2 q3 hw1 hsf
        go_wp2_with fail
        go_roundg (n + 1 - b)
        case measure => have := hq3.out; have := hab.out; omega
        case rel => exact ⟨k + 1, b, b + (bs + bs), ⟨by rw [Nat.mul_add, Nat.mul_one, ← hak.out]; exact hab.out⟩, ⟨rfl⟩, hbn, ⟨rfl⟩, rfl, by go_num, _, e1, e5, ⟨fun q hq => by
          by_cases hqk : q = k
          · subst hqk
            rw [← hak.out, e4.out]
            exact q1.out
          · rw [e2.out _ _ (hlow.out q (by omega))]
            exact hb2.out q (by omega)⟩, ⟨fun q hq => by
          rw [e3.out _ _ (by rw [hl12.out]; exact hhigh1.out q hq)]
          exact hb1.out q (by omega)⟩, hrow2, hgr⟩
      · have hbn0 : ¬ (b : Int) ≤ (n : Int) := by omega
        have hab0 := hab.out
        have hw1 : IntKind.i64.wrap ((a : Int) + (bs : Int)) = ((a + bs : Nat) : Int) := by rw [IntKind.wrap_i64]; omega
        by_cases hmn : a + bs < n
        · have hmn0 : ((a + bs : Nat) : Int) < (n : Int) := by omega
          have hl1 : (blkI l a bs).length = bs := by rw [blk_len, hl.out]; omega
          have hl2 : (blkI l (a + bs) bs).length = n - (a + bs) := by rw [blk_len, hl.out]; omega
          have hspl := blk_split l a (bs + bs)
          rw [blk_two] at hspl
          have hc := hH.out (l.take a) (blkI l a bs) (blkI l (a + bs) bs) (l.drop (a + (bs + bs))) sp g cap a (a + bs) n n V2 (by rw [← hspl]; exact hrow.out) (by rw [List.length_take, hl.out]; omega) (by rw [hl1]) (by rw [hl2]; omega) (by rw [← hspl, hl.out]) hcap.out hnL.out (by omega) (by omega) hs1 hs2
          have hl12 := Hd.mk (show (blkI l a (bs + bs)).length = n - a by rw [blk_len, hl.out]; omega)
          clear hspl hl1 hl2 hs1 hs2
          replace hlow := Hd.mk hlow
          replace hhigh := Hd.mk hhigh
          clear hhigh1
          generalize hmd : a + bs = m at *
          replace hmd := Hd.mk hmd
          have hd0 := Hd.mk (show l.drop (a + (bs + bs)) = [] from List.drop_of_length_le (by rw [hl.out]; omega))
          clear hab0
          go_wp2_with fail
          refine Calls.mono hc ?_
          rintro e w2 ⟨rfl, ⟨s, q1, q2, q3, hrow2⟩, hgr2⟩
          rw [← hmd.out, ← blk_two] at q2 q3
          obtain ⟨e1, e2, e3, e4, e5⟩ := turn_blk (l := l) (a := a) (c := bs + bs) s q3 (by rw [hl.out]; exact han)
          have hbs3 : Hd (∀ q, SrtLe (blkI (l.take a ++ s ++ l.drop (a + (bs + bs))) ((bs + bs) * q) (bs + bs))) := ⟨fun q => by
            by_cases hqk : q < k
            · rw [e2 _ _ (hlow.out q hqk)]
              exact hb2.out q hqk
            · by_cases hq2 : q = k
              · subst hq2
                rw [← hak.out, hd0.out, List.append_nil]
                have : blkI (l.take a ++ s) a (bs + bs) = s := by
                  unfold blkI
                  have hta : (l.take a).length = a := by rw [List.length_take, hl.out]; omega
                  rw [List.drop_append, hta, Nat.sub_self, List.drop_of_length_le (by omega), List.drop_zero, List.nil_append]
                  refine List.take_of_length_le ?_
                  rw [q3, hl12.out]
                  have := hab.out
                  omega
                rw [this]
                exact q1
              · rw [blk_out (by rw [e1, hl.out]; have := hhigh.out q (by omega); have := hab.out; omega)]
                exact srt_nil⟩
          replace hgr := Hd.mk (grown_trans hgr.out hgr2)
          replace hrow2 := Hd.mk hrow2
          replace e1 := Hd.mk (e1.trans hl.out)
          replace e5 := Hd.mk (hsf.out.trans (e5 q2))
          clear hgr2 hc hrow q2 q3 hw1 hsf e2 e3 e4 q1 hd0
          generalize l.take a ++ s ++ l.drop (a + (bs + bs)) = l2 at *
          go_wp2_with fail
          go_roundg (n + 1 - (bs + bs))
          case measure => have := hq.out; omega
          case rel => exact ⟨bs + bs, by omega, by omega, ⟨Nat.le_refl _⟩, by go_num, l2, e1, e5, hbs3, hrow2, hgr⟩
        · have hmn0 : ¬ ((a + bs : Nat) : Int) < (n : Int) := by omega
          have hbs3 : Hd (∀ q, SrtLe (blkI l ((bs + bs) * q) (bs + bs))) := ⟨fun q => by
            by_cases hqk : q < k
            · exact hb2.out q hqk
            · by_cases hq2 : q = k
              · subst hq2
                rw [← hak.out, blk_two, blk_out (x := a + bs) (by rw [hl.out]; omega), List.append_nil]
                exact hs1
              · rw [blk_out (by rw [hl.out]; have := hhigh q (by omega); have := hab.out; omega)]
                exact srt_nil⟩
          clear hs1 hs2 hlow hhigh hhigh1 hab0
          go_wp2_with fail
          go_roundg (n + 1 - (bs + bs))
          case measure => have := hq.out; omega
          case rel => exact ⟨bs + bs, by omega, by omega, ⟨Nat.le_refl _⟩, by go_num, l, hl, hsf, hbs3, hrow, hgr⟩
    · have hlt0 : ¬ (bs : Int) < (n : Int) := by omega
      have hfin : l = isortG ltI l0 := isort_of (by
        have := hbs.out 0
        unfold blkI at this
        rw [Nat.mul_zero, List.drop_zero, List.take_of_length_le (by rw [hl.out]; omega)] at this
        exact this) hsf.out
      rw [hfin] at hrow
      clear hfin hl hsf hbs
      go_wp2_with fail
      go_end0
      exact ⟨rfl, hrow.out, hgr.out⟩
end Go.Proofs.Ytgkgedjmnbjalaa
set_option linter.unusedSimpArgs false
namespace Go.Proofs.Ytgkgedjmnbjalaa
open Go.RowKit Go.Sort
theorem split_at {α : Type} {X : List α} {k : Nat} (h : k ≤ X.length) : ∃ X1 X2, X = X1 ++ X2 ∧ X1.length = k ∧ X2.length = X.length - k :=
  ⟨X.take k, X.drop k, (List.take_append_drop k X).symm, by rw [List.length_take]; omega, by rw [List.length_drop]⟩
set_option maxRecDepth 100000 in
set_option maxHeartbeats 2000000 in
theorem rotate (pre U V post : List It) (sp : List Value) (g cap a m b n : Nat) (w : World) (hb : Blk w g (rowI (pre ++ U ++ V ++ post) ++ sp) 54) (ha : a = pre.length) (hmm : m = a + U.length) (hbb : b = m + V.length) (hU : 0 < U.length) (hV : 0 < V.length) (hn : n = (pre ++ U ++ V ++ post).length) (hm : n ≤ 1048576) :
    Calls Try.prog 160 #[.slice (some ⟨g, 0, none⟩) n cap, .int .i64 a, .int .i64 m, .int .i64 b, .func (.func 116) #[] #[]] w fun e w' => e = .returned (.tuple #[]) ∧ Blk w' g (rowI (pre ++ V ++ U ++ post) ++ sp) 54 ∧ w.grownBy w' (some g) := by
  have hlen : n = b + post.length := by rw [hn]; simp only [List.length_append]; omega
  have hbn : b ≤ n := by omega
  have hmb : m < b := by omega
  have ham : a < m := by omega
  have hw1 : IntKind.i64.wrap ((m : Int) - (a : Int)) = ((m - a : Nat) : Int) := by rw [IntKind.wrap_i64]; omega
  have hw2 : IntKind.i64.wrap ((b : Int) - (m : Int)) = ((b - m : Nat) : Int) := by rw [IntKind.wrap_i64]; omega
  obtain ⟨T0, hT0⟩ : ∃ T0, T0 = pre ++ V ++ U ++ post := ⟨_, rfl⟩
  rw [← hT0]
  have hi0 : m - a = U.length := by omega
  have hj0 : b - m = V.length := by omega
  replace ha := Hd.mk ha
  replace hmm := Hd.mk hmm
  replace hbb := Hd.mk hbb
  replace hn := Hd.mk hn
  replace hb := Hd.mk hb
  replace hlen := Hd.mk hlen
  replace hT0 := Hd.mk hT0
  replace hi0 := Hd.mk hi0
  replace hj0 := Hd.mk hj0
  go_enter Try.func160, Try.ntmps160
  go_wp2_with fail
  clear hw1 hw2
  go_loopg [10, 11] (n + n) (fun q si sj wr => ∃ (i j : Nat) (P X Y Q : List It), 0 < i ∧ 0 < j ∧ i ≤ m ∧ m + j ≤ n ∧ Hd (i + j ≤ q) ∧ si = .int .i64 i ∧ sj = .int .i64 j ∧ Hd (X.length = i) ∧ Hd (Y.length = j) ∧ Hd (P.length = m - i) ∧ Hd ((P ++ X ++ Y ++ Q).length = n) ∧ Hd (P ++ Y ++ X ++ Q = T0) ∧ Hd (Blk wr g (rowI (P ++ X ++ Y ++ Q) ++ sp) 54) ∧ Hd (w.grownBy wr (some g)))
  case atStart => exact ⟨m - a, b - m, pre, U, V, post, by omega, by omega, by omega, by omega, ⟨by omega⟩, rfl, rfl, ⟨hi0.out.symm⟩, ⟨hj0.out.symm⟩, ⟨by rw [← ha.out]; omega⟩, ⟨hn.out.symm⟩, ⟨hT0.out.symm⟩, hb, ⟨grown_ext (Ext.refl _)⟩⟩
  case round =>
  clear hb
  obtain ⟨i, j, P, X, Y, Q, hi, hj, him, hjn, hq, rfl, rfl, hX, hY, hP, hL, hT, hrow, hgr⟩ := hrel
  generalize wr = V0 at *
  have hw3 : IntKind.i64.wrap ((m : Int) - (i : Int)) = ((m - i : Nat) : Int) := by rw [IntKind.wrap_i64]; omega
  by_cases hij : i = j
  · have hij0 : ((i : Int) != (j : Int)) = false := by rw [hij]; simp
    have hc := Hd.mk (swap_range P X [] Y Q sp g cap (m - i) m i n V0 (by simpa using hrow.out) hP.out.symm (by rw [hX.out]; simp; omega) hX.out.symm (by rw [hX.out, hY.out]; exact hij) (by simpa using hL.out.symm) hm)
    generalize hmi : m - i = mi at *
    clear hmi
    replace hij := Hd.mk hij
    go_wp2_with fail
    refine Calls.mono hc.out ?_
    rintro e w2 ⟨rfl, hrow2, hgr2⟩
    replace hrow2 := Hd.mk hrow2
    replace hgr := Hd.mk (grown_trans hgr.out hgr2)
    clear hgr2 hc hw3
    go_wp2_with fail
    go_end0
    exact ⟨rfl, by rw [← hT.out]; simpa using hrow2.out, hgr.out⟩
  · have hij0 : ((i : Int) != (j : Int)) = true := by simp; omega
    by_cases hgt : j < i
    · have hgt0 : (j : Int) < (i : Int) := by omega
      obtain ⟨X1, X2, rfl, h1, h2⟩ := split_at (X := X) (k := j) (by rw [hX.out]; omega)
      rw [hX.out] at h2
      have hc := Hd.mk (swap_range P X1 X2 Y Q sp g cap (m - i) m j n V0 (by simpa using hrow.out) hP.out.symm (by rw [h1, h2]; omega) h1.symm (by rw [h1, hY.out]) (by simpa using hL.out.symm) hm)
      have hw4 : IntKind.i64.wrap ((i : Int) - (j : Int)) = ((i - j : Nat) : Int) := by rw [IntKind.wrap_i64]; omega
      obtain ⟨i2, hi2⟩ : ∃ i2, i2 = i - j := ⟨_, rfl⟩
      obtain ⟨mi, hmi⟩ : ∃ mi, mi = m - i := ⟨_, rfl⟩
      rw [← hi2] at hw4
      rw [← hmi] at hc hw3
      replace h1 := Hd.mk h1
      replace h2 := Hd.mk h2
      replace hi2 := Hd.mk hi2
      replace hmi := Hd.mk hmi
      go_wp2_with fail
      refine Calls.mono hc.out ?_
      rintro e w2 ⟨rfl, hrow2, hgr2⟩
      replace hrow2 := Hd.mk hrow2
      replace hgr := Hd.mk (grown_trans hgr.out hgr2)
      clear hgr2 hc hw3 hij
      go_wp2_with fail
      go_roundg (i2 + j)
      case measure => have := hq.out; have := hi2.out; omega
      case rel => exact ⟨i2, j, P ++ Y, X2, X1, Q, by have := hi2.out; omega, hj, by have := hi2.out; omega, hjn, ⟨Nat.le_refl _⟩, rfl, rfl, ⟨by rw [h2.out, hi2.out]⟩, h1, ⟨by rw [List.length_append, hP.out, hY.out]; have := hi2.out; omega⟩, ⟨by have h9 := hL.out; simp only [List.length_append] at h9 ⊢; omega⟩, ⟨by have h9 := hT.out; simp only [List.append_assoc] at h9 ⊢; exact h9⟩, ⟨by simpa using hrow2.out⟩, hgr⟩
    · have hgt0 : ¬ (j : Int) < (i : Int) := by omega
      have hlt2 : i < j := by omega
      obtain ⟨Y1, Y2, rfl, h1, h2⟩ := split_at (X := Y) (k := j - i) (by rw [hY.out]; omega)
      rw [hY.out] at h2
      have hc := Hd.mk (swap_range P X Y1 Y2 Q sp g cap (m - i) (m + j - i) i n V0 (by simpa using hrow.out) hP.out.symm (by rw [hX.out, h1]; omega) hX.out.symm (by rw [hX.out, h2]; omega) (by simpa using hL.out.symm) hm)
      have hw4 : IntKind.i64.wrap ((j : Int) - (i : Int)) = ((j - i : Nat) : Int) := by rw [IntKind.wrap_i64]; omega
      have hw5 : IntKind.i64.wrap ((m : Int) + (j : Int)) = ((m + j : Nat) : Int) := by rw [IntKind.wrap_i64]; omega
      have hw6 : IntKind.i64.wrap (((m + j : Nat) : Int) - (i : Int)) = ((m + j - i : Nat) : Int) := by rw [IntKind.wrap_i64]; omega
      obtain ⟨j2, hj2⟩ : ∃ j2, j2 = j - i := ⟨_, rfl⟩
      obtain ⟨mi, hmi⟩ : ∃ mi, mi = m - i := ⟨_, rfl⟩
      obtain ⟨mj, hmj⟩ : ∃ mj, mj = m + j := ⟨_, rfl⟩
      obtain ⟨mk, hmk⟩ : ∃ mk, mk = m + j - i := ⟨_, rfl⟩
      rw [← hj2] at hw4
      rw [← hmi] at hc hw3
      rw [← hmk] at hc hw6
      rw [← hmj] at hw5 hw6
      replace h1 := Hd.mk h1
      replace h2 := Hd.mk h2
      replace hj2 := Hd.mk hj2
      replace hmi := Hd.mk hmi
      replace hmj := Hd.mk hmj
      replace hmk := Hd.mk hmk
      go_wp2_with fail
      refine Calls.mono hc.out ?_
      rintro e w2 ⟨rfl, hrow2, hgr2⟩
      replace hrow2 := Hd.mk hrow2
      replace hgr := Hd.mk (grown_trans hgr.out hgr2)
      clear hgr2 hc hw3 hij hw5 hw6
      go_wp2_with fail
      go_roundg (i + j2)
      case measure => have := hq.out; have := hj2.out; omega
      case rel => exact ⟨i, j2, P, Y2, Y1, X ++ Q, hi, by have := hj2.out; omega, him, by have := hj2.out; omega, ⟨Nat.le_refl _⟩, rfl, rfl, ⟨by rw [h2.out]; omega⟩, ⟨by rw [h1.out, hj2.out]⟩, hP, ⟨by have h9 := hL.out; simp only [List.length_append] at h9 ⊢; omega⟩, ⟨by have h9 := hT.out; simp only [List.append_assoc] at h9 ⊢; exact h9⟩, ⟨by simpa using hrow2.out⟩, hgr⟩
end Go.Proofs.Ytgkgedjmnbjalaa
set_option linter.unusedSimpArgs false
namespace Go.Proofs.Ytgkgedjmnbjalaa
open Go.RowKit Go.Sort
theorem filt_nil {l : List It} {s : Step} (h : ∀ z ∈ l, keyI z ≠ s) : l.filter (fun z => decide (keyI z = s)) = [] := List.filter_eq_nil_iff.2 fun z hz => by simpa using h z hz
theorem same_swap {U V : List It} (h : ∀ v ∈ V, ∀ u ∈ U, ltI v u = true) : SameF (U ++ V) (V ++ U) := fun s => by
  rw [List.filter_append, List.filter_append]
  by_cases hu : ∃ u ∈ U, keyI u = s
  · obtain ⟨u, hu1, hu2⟩ := hu
    rw [filt_nil (l := V) (fun v hv e => ltI_ne (h v hv u hu1) (e.trans hu2.symm)), List.append_nil, List.nil_append]
  · rw [filt_nil (l := U) (fun u hu1 hu2 => hu ⟨u, hu1, hu2⟩), List.append_nil, List.nil_append]
theorem srt_app {a b : List It} : SrtLe (a ++ b) ↔ SrtLe a ∧ SrtLe b ∧ ∀ x ∈ a, ∀ y ∈ b, ltI y x = false := List.pairwise_append
theorem mg_first {x : It} {P Q : List It} (hs : SrtLe (P ++ Q)) (hP : ∀ p ∈ P, ltI p x = true) (hQ : ∀ q ∈ Q, ltI q x = false) : SrtLe (P ++ x :: Q) ∧ SameF ([x] ++ (P ++ Q)) (P ++ x :: Q) := by
  obtain ⟨h1, h2, h3⟩ := srt_app.1 hs
  refine ⟨srt_app.2 ⟨h1, List.pairwise_cons.2 ⟨hQ, h2⟩, fun p hp y hy => ?_⟩, ?_⟩
  · rcases List.mem_cons.1 hy with rfl | hy
    · exact ltI_asymm (hP p hp)
    · exact h3 p hp y hy
  · have h4 := (same_swap (U := [x]) (V := P) (fun v hv u hu => by simp at hu; subst hu; exact hP v hv)).app (SameF.refl Q)
    simpa using h4
theorem ins_last {y : It} {P Q : List It} (hs : SrtLe (P ++ Q)) (hP : ∀ p ∈ P, ltI y p = false) (hQ : ∀ q ∈ Q, ltI y q = true) : SrtLe (P ++ y :: Q) ∧ SameF ((P ++ Q) ++ [y]) (P ++ y :: Q) := by
  obtain ⟨h1, h2, h3⟩ := srt_app.1 hs
  refine ⟨srt_app.2 ⟨h1, List.pairwise_cons.2 ⟨fun q hq => ltI_asymm (hQ q hq), h2⟩, fun p hp z hz => ?_⟩, ?_⟩
  · rcases List.mem_cons.1 hz with rfl | hz
    · exact hP p hp
    · exact h3 p hp z hz
  · have h4 := (SameF.refl P).app (same_swap (U := Q) (V := [y]) (fun v hv u hu => by simp at hv; subst hv; exact hQ u hu))
    simpa using h4
theorem merge_two {A U V B L R : List It} (h1 : SrtLe (A ++ U)) (h2 : SrtLe (V ++ B)) (hVU : ∀ v ∈ V, ∀ u ∈ U, ltI v u = true) (hAB : ∀ x ∈ A, ∀ y ∈ B, ltI y x = false) (hL : SrtLe L) (hL2 : SameF (A ++ V) L) (hR : SrtLe R) (hR2 : SameF (U ++ B) R) :
    SrtLe (L ++ R) ∧ SameF ((A ++ U) ++ (V ++ B)) (L ++ R) := by
  obtain ⟨a1, a2, a3⟩ := srt_app.1 h1
  obtain ⟨b1, b2, b3⟩ := srt_app.1 h2
  refine ⟨srt_app.2 ⟨hL, hR, fun x hx y hy => ?_⟩, ?_⟩
  · rcases List.mem_append.1 (hL2.symm.mem hx) with hx | hx <;> rcases List.mem_append.1 (hR2.symm.mem hy) with hy | hy
    · exact a3 x hx y hy
    · exact hAB x hx y hy
    · exact ltI_asymm (hVU x hx y hy)
    · exact b3 x hx y hy
  · have h4 := ((SameF.refl A).app (same_swap hVU)).app (SameF.refl B)
    have h5 : SameF ((A ++ U) ++ (V ++ B)) ((A ++ V) ++ (U ++ B)) := by simpa using h4
    exact h5.trans (hL2.app hR2)
theorem srt_half {A V : List It} (hA : SrtLe A) (hV : SrtLe V) (h : A = [] ∨ V = []) : SrtLe (A ++ V) := by
  rcases h with rfl | rfl
  · simpa using hV
  · simpa using hA
theorem swap_list2 {α : Type} (A : List α) (x y : α) (B : List α) : ((A ++ x :: y :: B).set A.length y).set (A.length + 1) x = A ++ y :: x :: B := by
  induction A with
  | nil => rfl
  | cons z A ih => simp only [List.cons_append, List.length_cons, List.set_cons_succ]; rw [ih]
def SrtIn (l : List It) (lo hi : Nat) : Prop := ∀ p q y z, lo ≤ p → p ≤ q → q < hi → l[p]? = some y → l[q]? = some z → ltI z y = false
theorem srt_in {pre s post : List It} (h : SrtLe s) : SrtIn (pre ++ s ++ post) pre.length (pre.length + s.length) := fun p q y z h1 h2 h3 hy hz => by
  rw [List.append_assoc, List.getElem?_append_right h1, List.getElem?_append_left (by omega)] at hy
  rw [List.append_assoc, List.getElem?_append_right (by omega), List.getElem?_append_left (by omega)] at hz
  by_cases he : p = q
  · subst he
    rw [hy] at hz
    cases hz
    exact ltI_irr y
  · obtain ⟨k1, rfl⟩ := List.getElem?_eq_some_iff.1 hy
    obtain ⟨k2, rfl⟩ := List.getElem?_eq_some_iff.1 hz
    exact List.pairwise_iff_getElem.1 h _ _ k1 k2 (by omega)
end Go.Proofs.Ytgkgedjmnbjalaa
set_option linter.unusedSimpArgs false
namespace Go.Proofs.Ytgkgedjmnbjalaa
open Go.RowKit Go.Sort
theorem wpl_append_none {ops : Array Oper} {rest : List Oper} {a : Act} {w : World} {Q : Exit → Act → World → Prop}
    (s x d : Tmp) (p1 : TypeId) (p2 : String) (p3 : Array Edge) (A : Option Addr) (n c : Nat) (hs : a.tmps[s]?.getD undef = .slice A n c) (hx : a.tmps[x]?.getD undef = .slice none 0 0) (hnc : n ≤ c)
    (h : wpList Try.prog ops Q rest (a.put (some d) (.slice A n c)) w) :
    wpList Try.prog ops Q (⟨some d, .call { callee := .builtin .append, args := #[.tmp s, .tmp x], argTypes := #[52, 52] }, p1, p2, p3, none⟩ :: rest) a w := by
  refine wpList_plain rfl fun K hK => ?_
  cases A with
  | none =>
    go_simp
    exact hK _ _ h
  | some b =>
    go_simp
    exact hK _ _ h
theorem wpl_append_src {ops : Array Oper} {rest : List Oper} {a : Act} {w : World} {Q : Exit → Act → World → Prop}
    (s x d : Tmp) (p1 : TypeId) (p2 : String) (p3 : Array Edge) (base : Nat) (v : Value) (n : Nat) (xs : List Value) (hs : a.tmps[s]?.getD undef = v) (hown : w.ownsRow base 54 6 v n xs)
    (X : Option Addr) (m c : Nat) (news : List Value) (hx : a.tmps[x]?.getD undef = .slice X m c) (hX : X = none → m = 0 ∧ c = 0) (hl : news.length = m * 6) (hnews : ∀ ad, X = some ad → ∀ j u, news[j]? = some u → w.cell? (ad.add j) = some u)
    (h1 : news.all (·.oneCell') = true) (hb : n + m ≤ 1048576) (hbase : base ≤ w.heap.size)
    (h : ∀ v' w', w'.ownsRow base 54 6 v' (n + m) (xs ++ news) → Below base w w' → wpList Try.prog ops Q rest (a.put (some d) v') w') :
    wpList Try.prog ops Q (⟨some d, .call { callee := .builtin .append, args := #[.tmp s, .tmp x], argTypes := #[52, 52] }, p1, p2, p3, none⟩ :: rest) a w := by
  cases X with
  | none =>
    obtain ⟨rfl, rfl⟩ := hX rfl
    obtain ⟨A, cap, rfl, hcap, _⟩ := own_slice hown
    have hn : news = [] := List.eq_nil_of_length_eq_zero (by omega)
    subst hn
    refine wpl_append_none s x d p1 p2 p3 A n cap hs hx hcap (h _ _ ?_ (Below.refl _ _))
    rw [List.append_nil]; exact hown
  | some ad =>
    refine wpl_append' sl52 (by omega) (by omega) (.tmp s) (.tmp x) d p1 p2 p3 base v n xs ?_ hown ad m c news ?_ hl (hnews ad rfl) h1 (by omega) hbase fun v' w' a1 a2 a3 => h v' w' a1 (Below.grown (Below.refl _ _) a2 hbase (fun k hk => own_base hown k hk))
    · rw [← hs]; simp [Act.eval]
    · rw [← hx]; simp [Act.eval]
theorem addr_add_add (a : Addr) (n j : Nat) : (a.add n).add j = a.add (n + j) := by
  by_cases hn : n = 0
  · subst hn; simp [Addr.add]
  · by_cases hj : j = 0
    · subst hj; simp [Addr.add]
    · simp [Addr.add, hn, hj, Nat.add_assoc]
theorem rrow_of_own {S : Nat → Prop} {w : World} {base n : Nat} {v : Value} {kids : List T} {css : List (List Value)} (hl : css.length = kids.length) (h6 : ∀ c ∈ css, c.length = 6) (hn : kids.length = n) (hb : n ≤ 1048576)
    (hr : ∀ (i : Nat) k c, kids[i]? = some k → css[i]? = some c → RT S w k c) (h : w.ownsRow base 54 6 v n css.flatten) : ∃ A cap, v = .slice A n cap ∧ RRow (fun b => S b ∨ base ≤ b) w A kids cap := by
  obtain ⟨A, cap, rfl, hcap, hnul, hrow⟩ := own_slice h
  refine ⟨A, cap, rfl, by omega, by omega, hnul, fun i k hi => ?_⟩
  have hlt := (List.getElem?_eq_some_iff.1 hi).1
  obtain ⟨g, sp, rfl, hge, hb2⟩ := hrow (by omega)
  have hci := List.getElem?_eq_getElem (show i < css.length by omega)
  refine ⟨g, 0, _, rfl, .inr hge, (hr i k _ hi hci).mono (fun _ _ h => .inl h), fun j u hj => ?_⟩
  have := flatten_get css h6 i _ hci j u hj
  rw [Nat.zero_add, hb2.cell, List.getElem?_append_left (List.getElem?_eq_some_iff.1 this).1]
  exact this
end Go.Proofs.Ytgkgedjmnbjalaa

/- SpecTags: the walk.
   Conditions: none. -/
import Derived.Test.YtgkgedjmnbjalaaSpZ
set_option linter.unusedSimpArgs false
namespace Go.Proofs.Ytgkgedjmnbjalaa
open Go.RowKit Go.Sort

/-- The cell of a kid's kind, told of written-out cells. -/
theorem RepS.kind2 {E : TypeId} {base : Nat} {w : World} {s : Sp} {kind ty mn mx : Int} {N : Option Addr} {nl nc : Nat} {must : Bool} {most : Int} {K : Option Addr} {kc : Nat}
    (h : RepS E base w s [.string s.name, .int .i64 kind, .int .i64 ty, .int .u64 mn, .int .u64 mx, .slice N nl nc, .bool must, .int .i64 most, .slice K s.kids.length kc]) :
    s.kids.length ≤ 100 ∧ ∀ i k, s.kids[i]? = some k → ∃ b, K = some ⟨b, 0, none⟩ ∧ w.cell? ⟨b, i * 9 + 1, none⟩ = some (.int .i64 k.kind) := by
  obtain ⟨x1, x2, x3, x4, x5, x6, x7, K', kc', he, hl, hk⟩ := h.kindAt
  simp only [List.cons.injEq, Value.slice.injEq, true_and, and_true] at he
  obtain ⟨_, _, _, _, _, _, _, rfl, _⟩ := he
  exact ⟨hl, hk⟩

set_option maxRecDepth 100000 in
set_option maxHeartbeats 8000000 in
theorem tags_walk (v : Int) (l : List ByteArray) (A : Option Addr) (c : Nat) (tg : Int) (w : World) (h : SRow w A l) (ht0 : 0 ≤ tg) (ht1 : tg < 18446744073709551616) :
    Calls Try.prog 4 #[.int .i64 v, .slice A l.length c, .int .u64 tg] w fun e w' => e = .returned (.bool true) ∧ Ext w w' := by
  have hr := Hd.mk h
  have ht := Hd.mk (And.intro ht0 ht1)
  clear h
  generalize hsC : specAt v l = rC
  have hsC := Hd.mk hsC
  obtain ⟨sC, eC⟩ := rC
  go_enter Try.func4, Try.ntmps4
  go_wp2_with fail
  refine (awake_yes _).mono ?_
  rintro e w0 ⟨rfl, hx0⟩
  have kx := Hd.mk hx0
  clear hx0
  by_cases h20 : l.length ≤ 20
  · go_wp2_with fail
    refine Calls.mono (at_any v l A c _ (by omega) (hr.out.ext kx.out)) ?_
    rintro e w1 ⟨_, rfl, c1, rfl, hr1, hx1⟩
    rw [hsC.out] at hr1 ⊢
    obtain ⟨kindC, tyC, mnC, mxC, NC, nlC, ncC, mustC, mostC, KC, kcC, rfl⟩ := hr1.form
    have kk := Hd.mk (boxed (t := 27) hr1 hx1)
    clear hr1 hx1
    simp only [cSpec]
    go_wp2_with fail
    have kbC := Hd.mk kk.out.1
    have krC := Hd.mk kk.out.2.1
    have hx1 := Hd.mk kk.out.2.2
    clear kk
    simp only [cSpec] at kbC krC hx1
    generalize w1.heap.size = pC at *
    generalize w1.alloc _ = w1 at *
    replace kx := Hd.mk (kx.out.trans hx1.out)
    clear hx1
    refine Calls.mono (at_ref v l A c _ (by omega) (hr.out.ext kx.out)) ?_
    rintro e w1 ⟨_, rfl, c1, rfl, hr1, hx1⟩
    rw [hsC.out] at hr1 ⊢
    obtain ⟨kindD, tyD, mnD, mxD, ND, nlD, ncD, mustD, mostD, KD, kcD, rfl⟩ := hr1.form
    have kk := Hd.mk (boxed (t := 33) hr1 hx1)
    clear hr1 hx1
    simp only [cSpec]
    go_wp2_with fail
    have kbD := Hd.mk kk.out.1
    have krD := Hd.mk kk.out.2.1
    have hx1 := Hd.mk kk.out.2.2
    clear kk
    simp only [cSpec] at kbD krD hx1
    generalize w1.heap.size = pD at *
    generalize w1.alloc _ = w2 at *
    replace kx := Hd.mk (kx.out.trans hx1.out)
    replace kbC := Hd.mk (kbC.out.ext hx1.out)
    replace krC := Hd.mk (krC.out.ext hx1.out)
    clear hx1
    generalize w2 = W at *
    refine Flow.wp_region_flow_l (fun t => match t with
        | 33 => SP.eq (.agg #[.string sC.name, .int .i64 kindC, .int .i64 tyC, .int .u64 mnC, .int .u64 mxC, .slice NC nlC ncC, .bool mustC, .int .i64 mostC, .slice KC sC.kids.length kcC])
        | 34 => SP.eq (.int .u64 tg)
        | 35 => SP.eq (.int .i64 (kidSp sC tg))
        | 36 => SP.eq (.agg #[.string sC.name, .int .i64 kindD, .int .i64 tyD, .int .u64 mnD, .int .u64 mxD, .slice ND nlD ncD, .bool mustD, .int .i64 mostD, .slice KD sC.kids.length kcD])
        | 37 => SP.eq (.int .u64 tg)
        | 38 => SP.eq (.int .i64 (kidSp sC tg))
        | 39 => SP.eq (.bool false)
        | 40 => SP.eq (.bool false)
        | 41 => SP.eq (.agg #[.string sC.name, .int .i64 kindC, .int .i64 tyC, .int .u64 mnC, .int .u64 mxC, .slice NC nlC ncC, .bool mustC, .int .i64 mostC, .slice KC sC.kids.length kcC])
        | 42 => SP.eq (.int .i64 (-1))
        | 43 => SP.eq (.bool false)
        | 44 => SP.eq (.bool false)
        | _ => SP.any) 12 (by kernel_rfl) 101 rfl (by kernel_rfl) ?_ ?_
    · skip
      refine ⟨?_, ?_, ?_, ?_, ?_, ?_, ?_, ?_, ?_, ?_, ?_, ?_, trivial⟩
      · intro a W2 hk
        refine Flow.does_intro rfl (fun K hK => ?_)
        have e8 : a.tmps[8]?.getD undef = .pointer (some ⟨pC, 0, none⟩) := hk.o 8 (by kernel_rfl)
        have g := (kbC.out.ext ((Ext.drew W).trans hk.ext)).cell
        clear hk
        go_simp
        exact hK _ _ (Ext.refl _) (fun d hd => by cases hd; rfl)
      · intro a W2 hk
        refine Flow.does_intro rfl (fun K hK => ?_)
        have e2 : a.tmps[2]?.getD undef = .int .u64 tg := hk.o 2 (by kernel_rfl)
        clear hk
        go_simp
        exact hK _ _ (Ext.refl _) (fun d hd => by cases hd; rfl)
      · intro a W2 hk
        refine Flow.does_intro rfl (fun K hK => ?_)
        have e33 : a.tmps[33]?.getD undef = _ := hk.v 33 (by kernel_rfl)
        have e34 : a.tmps[34]?.getD undef = _ := hk.v 34 (by kernel_rfl)
        have hx0 := Hd.mk ((Ext.drew W).trans hk.ext)
        clear hk
        go_simp
        refine Calls.mono (kid_any (krC.out.ext hx0.out) tg ht.out.1 ht.out.2) ?_
        rintro e W3 ⟨rfl, hx⟩
        exact hK _ _ hx (fun d hd => by cases hd; rfl)
      · intro a W2 hk
        refine Flow.does_intro rfl (fun K hK => ?_)
        have e10 : a.tmps[10]?.getD undef = .pointer (some ⟨pD, 0, none⟩) := hk.o 10 (by kernel_rfl)
        have g := (kbD.out.ext ((Ext.drew W).trans hk.ext)).cell
        clear hk
        go_simp
        exact hK _ _ (Ext.refl _) (fun d hd => by cases hd; rfl)
      · intro a W2 hk
        refine Flow.does_intro rfl (fun K hK => ?_)
        have e2 : a.tmps[2]?.getD undef = .int .u64 tg := hk.o 2 (by kernel_rfl)
        clear hk
        go_simp
        exact hK _ _ (Ext.refl _) (fun d hd => by cases hd; rfl)
      · intro a W2 hk
        refine Flow.does_intro rfl (fun K hK => ?_)
        have e36 : a.tmps[36]?.getD undef = _ := hk.v 36 (by kernel_rfl)
        have e37 : a.tmps[37]?.getD undef = _ := hk.v 37 (by kernel_rfl)
        have hx0 := Hd.mk ((Ext.drew W).trans hk.ext)
        clear hk
        go_simp
        refine Calls.mono (kid_ref (krD.out.ext hx0.out) tg) ?_
        rintro e W3 ⟨rfl, hx⟩
        exact hK _ _ hx (fun d hd => by cases hd; rfl)
      · intro a W2 hk
        refine Flow.does_intro rfl (fun K hK => ?_)
        have e35 : a.tmps[35]?.getD undef = _ := hk.v 35 (by kernel_rfl)
        have e38 : a.tmps[38]?.getD undef = _ := hk.v 38 (by kernel_rfl)
        clear hk
        go_simp
        exact hK _ _ (Ext.refl _) (fun d hd => by cases hd; rfl)
      · intro a W2 hk
        refine Flow.does_intro rfl (fun K hK => ?_)
        have e39 : a.tmps[39]?.getD undef = _ := hk.v 39 (by kernel_rfl)
        clear hk
        go_simp
        exact hK _ _ (Ext.refl _) (fun d hd => by cases hd; rfl)
      · intro a W2 hk
        have eg : a.tmps[40]?.getD undef = .bool false := hk.v 40 (by kernel_rfl)
        refine Flow.does_intro (wanted_yes rfl rfl eg) (fun K hK => ?_)
        clear eg
        have e8 : a.tmps[8]?.getD undef = .pointer (some ⟨pC, 0, none⟩) := hk.o 8 (by kernel_rfl)
        have g := (kbC.out.ext ((Ext.drew W).trans hk.ext)).cell
        clear hk
        go_simp
        exact hK _ _ (Ext.refl _) (fun d hd => by cases hd; rfl)
      · intro a W2 hk
        have eg : a.tmps[40]?.getD undef = .bool false := hk.v 40 (by kernel_rfl)
        refine Flow.does_intro (wanted_yes rfl rfl eg) (fun K hK => ?_)
        clear eg
        have e41 : a.tmps[41]?.getD undef = _ := hk.v 41 (by kernel_rfl)
        have hx0 := Hd.mk ((Ext.drew W).trans hk.ext)
        clear hk
        go_simp
        refine Calls.mono (kid_any (krC.out.ext hx0.out) 0 (by decide) (by decide)) ?_
        rintro e W3 ⟨rfl, hx⟩
        exact hK _ _ hx (fun d hd => by cases hd; exact congrArg (Value.int .i64) (kidSp_no (s := sC) (t := 0) (.inl (by decide))))
      · intro a W2 hk
        have eg : a.tmps[40]?.getD undef = .bool false := hk.v 40 (by kernel_rfl)
        refine Flow.does_intro (wanted_yes rfl rfl eg) (fun K hK => ?_)
        clear eg
        have e42 : a.tmps[42]?.getD undef = _ := hk.v 42 (by kernel_rfl)
        clear hk
        go_simp
        exact hK _ _ (Ext.refl _) (fun d hd => by cases hd; rfl)
      · intro a W2 hk
        refine Flow.does_intro rfl (fun K hK => ?_)
        have e40 : a.tmps[40]?.getD undef = _ := hk.v 40 (by kernel_rfl)
        have e43 : a.tmps[43]?.getD undef = _ := hk.v 43 (by kernel_rfl)
        clear hk
        go_simp
        exact hK _ _ (Ext.refl _) (fun d hd => by cases hd; rfl)
    · intro a W2 he
      have hxW2 := Hd.mk ((Ext.drew W).trans he.ext)
      obtain ⟨us, hA, hF⟩ := he.out [33, 34, 35, 36, 37, 38, 39, 40, 41, 42, 43, 44] (by kernel_rfl)
      simp only [Flow.fillL, List.contains_cons, List.contains_nil, Nat.reduceBEq, Bool.or_false, Bool.false_or, Bool.or_true, Bool.true_or, ↓reduceIte, Nat.reduceAdd, Bool.false_eq_true] at hA
      subst hA
      have f44 : us 44 = .bool false := hF 44 (by simp)
      clear hF he
      rw [f44]
      clear f44
      replace kx := Hd.mk (kx.out.trans hxW2.out)
      replace kbC := Hd.mk (kbC.out.ext hxW2.out)
      replace kbD := Hd.mk (kbD.out.ext hxW2.out)
      replace krC := Hd.mk (krC.out.ext hxW2.out)
      replace krD := Hd.mk (krD.out.ext hxW2.out)
      clear hxW2
      refine (show wpList _ _ _ [] _ _ from ?_)
      go_wp2_with fail
      generalize us 33 = u33 at *
      generalize us 34 = u34 at *
      generalize us 35 = u35 at *
      generalize us 36 = u36 at *
      generalize us 37 = u37 at *
      generalize us 38 = u38 at *
      generalize us 39 = u39 at *
      generalize us 40 = u40 at *
      generalize us 41 = u41 at *
      generalize us 42 = u42 at *
      generalize us 43 = u43 at *
      have hkind := Hd.mk krC.out.kind2
      have hl100 := hkind.out.1
      go_loopg [12] (sC.kids.length + 5) (fun q i wr => ∃ j : Nat, j ≤ sC.kids.length + 4 ∧ Hd (q = sC.kids.length + 5 - j) ∧ i = .int .i64 ((j : Int) - 2) ∧ Hd (Ext W2 wr))
      case atStart => exact ⟨0, Nat.zero_le _, ⟨by omega⟩, rfl, ⟨Ext.refl _⟩⟩
      case round =>
      obtain ⟨j, hj, hq, rfl, hxr⟩ := hrel
      have gC := (kbC.out.ext hxr.out).cell
      have gD := (kbD.out.ext hxr.out).cell
      by_cases hend : j = sC.kids.length + 4
      · subst hend
        go_wp2_with fail
        go_ret
        exact ⟨rfl, kx.out.trans hxr.out⟩
      · have hj2 : j < sC.kids.length + 4 := by omega
        by_cases hin : 2 ≤ j ∧ j < sC.kids.length + 2
        · obtain ⟨n, rfl⟩ : ∃ n, j = n + 2 := ⟨j - 2, by omega⟩
          have hlt : n < sC.kids.length := by omega
          have hcast : ((n + 2 : Nat) : Int) - 2 = n := by omega
          rw [hcast]
          clear hcast
          have hik := List.getElem?_eq_getElem hlt
          generalize sC.kids[n] = k at hik
          have htag := Hd.mk (tagSp_in hik)
          have hyes := Hd.mk (kidSp_yes (t := tagSp sC n) n (tagSp_div hlt) hlt rfl)
          obtain ⟨b, rfl, hkc⟩ := hkind.out.2 n k hik
          have hkc2 := Hd.mk hkc
          clear hkc hik
          go_wp2_with fail
          refine Calls.mono (tag_any (krC.out.ext hxr.out) n) ?_
          rintro e w3 ⟨rfl, hx3⟩
          have hxr3 := Hd.mk (hxr.out.trans hx3)
          have gC := (kbC.out.ext hxr3.out).cell
          have gD := (kbD.out.ext hxr3.out).cell
          clear hx3 hxr
          have htr := Hd.mk (show 0 ≤ tagSp sC n ∧ tagSp sC n < 18446744073709551616 by rw [htag.out]; split <;> omega)
          have hmod := Hd.mk (show (decide (tagSp sC n % 2 = 0)) = decide (k.kind = 1) by rw [htag.out]; split <;> rename_i h <;> simp [h] <;> omega)
          have href := Hd.mk (tag_ref (krD.out.ext hxr3.out) n)
          generalize tagSp sC n = T at *
          go_wp2_with fail
          refine Calls.mono href.out ?_
          rintro e w4 ⟨rfl, hx4⟩
          have hxr4 := Hd.mk (hxr3.out.trans hx4)
          have gC := (kbC.out.ext hxr4.out).cell
          have gD := (kbD.out.ext hxr4.out).cell
          have hkk := Ext.cell hxr4.out hkc2.out
          clear hx4 hxr3 href
          go_wp2_with fail
          refine Calls.mono (kid_any (krC.out.ext hxr4.out) T htr.out.1 htr.out.2) ?_
          rintro e w5 ⟨rfl, hx5⟩
          rw [hyes.out]
          have hxr5 := Hd.mk (hxr4.out.trans hx5)
          have gC := (kbC.out.ext hxr5.out).cell
          have gD := (kbD.out.ext hxr5.out).cell
          have hkk := Ext.cell hxr5.out hkc2.out
          clear hx5 hxr4
          generalize hkd : k.kind = kd at *
          by_cases hk1 : kd = 1
          · have hm : T.tmod 2 = 0 := by
              rw [Int.tmod_eq_emod_of_nonneg htr.out.1]
              simpa [hk1] using hmod.out
            clear hkd hmod
            subst hk1
            go_wp2_with fail
            go_roundg (sC.kids.length + 5 - (n + 2 + 1))
            case measure => have := hq.out; omega
            case rel => exact ⟨n + 2 + 1, by omega, ⟨rfl⟩, by congr 1; omega, hxr5⟩
          · have hm : ¬ T.tmod 2 = 0 := by
              rw [Int.tmod_eq_emod_of_nonneg htr.out.1]
              simpa [hk1] using hmod.out
            have hm2 : (T.tmod 2 == 0) = false := by simpa using hm
            have hm3 : (kd == 1) = false := by simpa using hk1
            clear hkd hmod
            go_wp2_with fail
            go_roundg (sC.kids.length + 5 - (n + 2 + 1))
            case measure => have := hq.out; omega
            case rel => exact ⟨n + 2 + 1, by omega, ⟨rfl⟩, by congr 1; omega, hxr5⟩
        · have htag := Hd.mk (tagSp_out (s := sC) (i := (j : Int) - 2) (by omega))
          have hio := Hd.mk (show (j : Int) - 2 < 0 ∨ (0 ≤ (j : Int) - 2 ∧ (sC.kids.length : Int) ≤ (j : Int) - 2) by omega)
          generalize hi : (j : Int) - 2 = i at *
          go_wp2_with fail
          refine Calls.mono (tag_any (krC.out.ext hxr.out) i) ?_
          rintro e w3 ⟨rfl, hx3⟩
          rw [htag.out]
          have hxr3 := Hd.mk (hxr.out.trans hx3)
          have gC := (kbC.out.ext hxr3.out).cell
          have gD := (kbD.out.ext hxr3.out).cell
          clear hx3 hxr
          have href := Hd.mk (tag_ref (krD.out.ext hxr3.out) i)
          rw [htag.out] at href
          rcases hio.out with h1 | ⟨h1, h2⟩
          all_goals
            go_wp2_with fail
            refine Calls.mono href.out ?_
            rintro e w4 ⟨rfl, hx4⟩
            have hxr4 := Hd.mk (hxr3.out.trans hx4)
            have gC := (kbC.out.ext hxr4.out).cell
            have gD := (kbD.out.ext hxr4.out).cell
            clear hx4
            go_wp2_with fail
            go_roundg (sC.kids.length + 5 - (j + 1))
            case measure => have := hq.out; omega
            case rel => exact ⟨j + 1, by omega, ⟨rfl⟩, by congr 1; omega, hxr4⟩
  · go_wp2_with fail
    go_ret
    exact ⟨rfl, kx.out⟩

end Go.Proofs.Ytgkgedjmnbjalaa

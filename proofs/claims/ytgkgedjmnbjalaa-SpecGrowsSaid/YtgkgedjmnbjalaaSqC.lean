/- SpecGrows: the walk.
   Conditions: none. -/
import Derived.Test.YtgkgedjmnbjalaaSqB
set_option linter.unusedSimpArgs false
namespace Go.Proofs.Ytgkgedjmnbjalaa
open Go.RowKit Go.Sort

theorem wanted_no {ops : Array Oper} {o : Oper} {a : Act} {j : Nat} {t : Tmp} {b c : Bool} (hg : o.guard = some (j, b)) (hd : (ops[j]?).bind (·.dst) = some t) (he : a.tmps[t]?.getD undef = .bool c) (hbc : (c == b) = false := by rfl) : Region.wanted o (yielded ops a.tmps) = false := by
  have h : a.tmps[t]? = some (.bool c) := by
    cases h : a.tmps[t]? with
    | none => rw [h] at he; simp [undef] at he
    | some v => rw [h] at he; simpa using he
  simp only [Region.wanted, hg, yielded, hd, h, Option.bind_some]
  cases b <;> cases c <;> first | rfl | simp_all
theorem last_get {l : List ByteArray} {m : Nat} {x : ByteArray} (hm : l.length = m + 1) (h : ∀ n, l.getLast? = some n → x = n) : l[m]? = some x := by
  rw [List.getLast?_eq_getElem?, hm, Nat.add_sub_cancel] at h
  cases hx : l[m]? with
  | none => rw [List.getElem?_eq_none_iff] at hx; omega
  | some y => rw [h y hx]

theorem grow_last {v : Int} (hv : v = 1 ∨ v = 2) {l : List ByteArray} {x : Sp} (h : specAt v l = (x, 0)) : ∀ n, l.getLast? = some n → x.name = n := by
  rcases hv with rfl | rfl
  · exact atSp_last l (rootSp 0) (specAt_some rfl h)
  · exact atSp_last l (rootSp 1) (specAt_some rfl h)

set_option maxRecDepth 100000 in
set_option maxHeartbeats 8000000 in
theorem grows_walk (l : List ByteArray) (A : Option Addr) (c : Nat) (w : World) (h : SRow w A l) :
    Calls Try.prog 5 #[.slice A l.length c] w fun e w' => e = .returned (.bool true) ∧ Ext w w' := by
  have hr := Hd.mk h
  clear h
  go_enter Try.func5, Try.ntmps5
  go_wp2_with fail
  refine (awake_yes _).mono ?_
  rintro e w0 ⟨rfl, hx0⟩
  have kx := Hd.mk hx0
  clear hx0
  by_cases h20 : l.length ≤ 20
  · go_wp2_with fail
    go_loopg [4] 4 (fun q i wr => ∃ v : Nat, 1 ≤ v ∧ v ≤ 3 ∧ Hd (q = 5 - v) ∧ i = .int .i64 v ∧ Hd (Ext w wr))
    case atStart => exact ⟨1, by omega, by omega, ⟨rfl⟩, rfl, kx⟩
    case round =>
    obtain ⟨v, hv1, hv3, hq, rfl, hxr⟩ := hrel
    by_cases hlt : v < 3
    · go_wp2_with fail
      refine Calls.mono (at_any v l A c _ (by omega) (hr.out.ext hxr.out)) ?_
      rintro e w1 ⟨_, rfl, c1, rfl, hr1, hx1⟩
      have hlaw := Hd.mk (fun x (h : specAt v l = (x, 0)) => grow_law (v := v) (by omega) h)
      have hlast := Hd.mk (fun x (h : specAt v l = (x, 0)) => grow_last (v := v) (by omega) h)
      generalize hsA : specAt v l = rA at *
      have hsA := Hd.mk hsA
      obtain ⟨sA, eA⟩ := rA
      obtain ⟨NA, ncA, KA, kcA, rfl⟩ := hr1.form2
      have kk := Hd.mk (boxed (t := 27) hr1 (hxr.out.trans hx1))
      have hsm := hr1.kid2
      clear hr1 hx1 hxr
      simp only [cSpec]
      by_cases he : eA = 0
      · subst he
        have hlaw2 := Hd.mk (hlaw.out sA rfl)
        have hlast2 := Hd.mk (hlast.out sA rfl)
        clear hlaw hlast
        go_wp2_with fail
        simp only [cSpec] at kk
        have kbA := Hd.mk kk.out.1
        have kx1 := Hd.mk kk.out.2.2
        clear kk
        generalize w1.heap.size = pA at *
        generalize w1.alloc _ = W1 at *
        refine Calls.mono (at_any ((v : Int) + 1) l A c _ (by omega) (hr.out.ext kx1.out)) ?_
        rintro e w2 ⟨_, rfl, c2, rfl, hr2, hx2⟩
        rcases hlaw2.out with ⟨hv2, hnm, hno⟩ | ⟨hnn, y, hy, hlike⟩
        · have hv : v = 2 := by omega
          subst hv
          rw [hno] at hr2 ⊢
          obtain ⟨N2, nc2, K2, kc2, rfl⟩ := hr2.form2
          have kk2 := Hd.mk (boxed (t := 27) hr2 hx2)
          clear hr2 hx2 hlaw2
          simp only [cSpec]
          have g1 := (kbA.out.ext kk2.out.2.2).cell
          rw [hnm] at g1
          simp only [cSpec] at g1
          have kx2 := Hd.mk (kx1.out.trans kk2.out.2.2)
          simp only [cSpec] at kx2
          clear kk2
          go_wp2_with fail
          go_ret
          exact ⟨rfl, kx2.out⟩
        · rw [hy] at hr2 ⊢
          obtain ⟨N2, nc2, K2, kc2, rfl⟩ := hr2.form2
          obtain ⟨e1, e2, e3, e4, e5, e6, e7, e8⟩ := likeB_eq hlike
          rw [e1, e2, e3, e4, e5, e6, e7] at hr2 ⊢
          have kk2 := Hd.mk (boxed (t := 27) hr2 hx2)
          clear hr2 hx2
          simp only [cSpec] at kk2 ⊢
          have kbA2 := Hd.mk (kbA.out.ext kk2.out.2.2)
          have kbB := Hd.mk kk2.out.1
          have kx2 := Hd.mk (kx1.out.trans kk2.out.2.2)
          clear kk2 hsm
          have gA := kbA2.out.cell
          have gB := kbB.out.cell
          by_cases hl : sA.name = ⟨#[108, 105, 109, 105, 116]⟩
          · have hv : v = 1 := by
              have : v ≠ 2 := fun h => hnn ⟨by omega, hl⟩
              omega
            subst hv
            have hd : (sA.name.toList == [108, 105, 109, 105, 116]) = true := by rw [hl]; kernel_rfl
            have hl2 := Hd.mk hl
            clear hl
            clear hlaw2 hnn hlike e1 e2 e3 e4 e5 e6 e7
            go_wp2_with fail
            generalize w2.alloc _ = W at *
            rcases Nat.eq_zero_or_pos l.length with hl0 | hlp
            · refine Flow.wp_region_flow_l (fun t => match t with
                | 103 => SP.eq (.slice A l.length c)
                | 104 => SP.eq (.int .i64 (l.length : Nat))
                | 105 => SP.eq (.bool false)
                | 106 => SP.eq (.bool false)
                | 116 => SP.eq (.bool false)
                | _ => SP.any) 14 (by kernel_rfl) 117 rfl (by kernel_rfl) ?_ ?_
              · skip
                refine ⟨?_, ?_, ?_, ?_, ?_, ?_, ?_, ?_, ?_, ?_, ?_, ?_, ?_, ?_, trivial⟩
                · intro a W2 hk
                  refine Flow.does_intro rfl (fun K hK => ?_)
                  have e0 : a.tmps[0]?.getD undef = .slice A l.length c := hk.o 0 (by kernel_rfl)
                  clear hk
                  go_simp
                  exact hK _ _ (Ext.refl _) (fun d hd => by cases hd; first | rfl | (simp [SP.eq, hl0]))
                · intro a W2 hk
                  refine Flow.does_intro rfl (fun K hK => ?_)
                  have e103 : a.tmps[103]?.getD undef = _ := hk.v 103 (by kernel_rfl)
                  clear hk
                  go_simp
                  exact hK _ _ (Ext.refl _) (fun d hd => by cases hd; first | rfl | (simp [SP.eq, hl0]))
                · intro a W2 hk
                  refine Flow.does_intro rfl (fun K hK => ?_)
                  have e104 : a.tmps[104]?.getD undef = _ := hk.v 104 (by kernel_rfl)
                  clear hk
                  go_simp
                  try simp only [hl0] at *
                  exact hK _ _ (Ext.refl _) (fun d hd => by cases hd; first | rfl | (simp [SP.eq, hl0]))
                · intro a W2 hk
                  refine Flow.does_intro rfl (fun K hK => ?_)
                  have e105 : a.tmps[105]?.getD undef = _ := hk.v 105 (by kernel_rfl)
                  clear hk
                  go_simp
                  exact hK _ _ (Ext.refl _) (fun d hd => by cases hd; first | rfl | (simp [SP.eq, hl0]))
                · intro a W2 hk
                  have eg : a.tmps[106]?.getD undef = .bool false := hk.v 106 (by kernel_rfl)
                  exact Flow.does_skip (wanted_no rfl rfl eg) (fun d hd => by cases hd; trivial)
                · intro a W2 hk
                  have eg : a.tmps[106]?.getD undef = .bool false := hk.v 106 (by kernel_rfl)
                  exact Flow.does_skip (wanted_no rfl rfl eg) (fun d hd => by cases hd; trivial)
                · intro a W2 hk
                  have eg : a.tmps[106]?.getD undef = .bool false := hk.v 106 (by kernel_rfl)
                  exact Flow.does_skip (wanted_no rfl rfl eg) (fun d hd => by cases hd; trivial)
                · intro a W2 hk
                  have eg : a.tmps[106]?.getD undef = .bool false := hk.v 106 (by kernel_rfl)
                  exact Flow.does_skip (wanted_no rfl rfl eg) (fun d hd => by cases hd; trivial)
                · intro a W2 hk
                  have eg : a.tmps[106]?.getD undef = .bool false := hk.v 106 (by kernel_rfl)
                  exact Flow.does_skip (wanted_no rfl rfl eg) (fun d hd => by cases hd; trivial)
                · intro a W2 hk
                  have eg : a.tmps[106]?.getD undef = .bool false := hk.v 106 (by kernel_rfl)
                  exact Flow.does_skip (wanted_no rfl rfl eg) (fun d hd => by cases hd; trivial)
                · intro a W2 hk
                  have eg : a.tmps[106]?.getD undef = .bool false := hk.v 106 (by kernel_rfl)
                  exact Flow.does_skip (wanted_no rfl rfl eg) (fun d hd => by cases hd; trivial)
                · intro a W2 hk
                  have eg : a.tmps[106]?.getD undef = .bool false := hk.v 106 (by kernel_rfl)
                  exact Flow.does_skip (wanted_no rfl rfl eg) (fun d hd => by cases hd; trivial)
                · intro a W2 hk
                  have eg : a.tmps[106]?.getD undef = .bool false := hk.v 106 (by kernel_rfl)
                  exact Flow.does_skip (wanted_no rfl rfl eg) (fun d hd => by cases hd; trivial)
                · intro a W2 hk
                  refine Flow.does_intro rfl (fun K hK => ?_)
                  have e106 : a.tmps[106]?.getD undef = _ := hk.v 106 (by kernel_rfl)
                  clear hk
                  go_simp
                  exact hK _ _ (Ext.refl _) (fun d hd => by cases hd; first | rfl | (simp [SP.eq, hl0]))
              · intro a W2 he
                have hxW2 := Hd.mk (kx2.out.trans ((Ext.drew W).trans he.ext))
                obtain ⟨us, hA, hF⟩ := he.out [103, 104, 105, 106, 107, 108, 109, 110, 111, 112, 113, 114, 115, 116] (by kernel_rfl)
                simp only [Flow.fillL, List.contains_cons, List.contains_nil, Nat.reduceBEq, Bool.or_false, Bool.false_or, Bool.or_true, Bool.true_or, ↓reduceIte, Nat.reduceAdd, Bool.false_eq_true] at hA
                subst hA
                have f6 : us 116 = .bool false := hF 116 (by simp)
                clear hF he
                rw [f6]
                clear f6
                refine (show wpList _ _ _ [] _ _ from ?_)
                go_wp2_with fail
                go_roundg (5 - (1 + 1))
                case measure => have := hq.out; omega
                case rel => exact ⟨1 + 1, by omega, by omega, ⟨rfl⟩, by go_num, hxW2⟩
            · obtain ⟨m, hm⟩ : ∃ m, l.length = m + 1 := ⟨l.length - 1, by omega⟩
              replace hm := Hd.mk hm
              have hmlt := Hd.mk (show m < l.length from by have := hm.out; omega)
              obtain ⟨b, off, rfl, kn0⟩ := (hr.out.ext kx2.out) m sA.name (last_get hm.out hlast2.out)
              have kn := Hd.mk kn0
              clear kn0
              refine Flow.wp_region_flow_l (fun t => match t with
                | 103 => SP.eq (.slice (some ⟨b, off, none⟩) l.length c)
                | 104 => SP.eq (.int .i64 (l.length : Nat))
                | 105 => SP.eq (.bool true)
                | 106 => SP.eq (.bool true)
                | 107 => SP.eq (.pointer (some ⟨pA, 0, none⟩))
                | 108 => SP.eq (.string sA.name)
                | 109 => SP.eq (.slice (some ⟨b, off, none⟩) l.length c)
                | 110 => SP.eq (.slice (some ⟨b, off, none⟩) l.length c)
                | 111 => SP.eq (.int .i64 (l.length : Nat))
                | 112 => SP.eq (.int .i64 (m : Nat))
                | 113 => SP.eq (.pointer (some ⟨b, off + m, none⟩))
                | 114 => SP.eq (.string sA.name)
                | 115 => SP.eq (.bool false)
                | 116 => SP.eq (.bool false)
                | _ => SP.any) 14 (by kernel_rfl) 117 rfl (by kernel_rfl) ?_ ?_
              · skip
                refine ⟨?_, ?_, ?_, ?_, ?_, ?_, ?_, ?_, ?_, ?_, ?_, ?_, ?_, ?_, trivial⟩
                · intro a W2 hk
                  refine Flow.does_intro rfl (fun K hK => ?_)
                  have e0 : a.tmps[0]?.getD undef = .slice (some ⟨b, off, none⟩) l.length c := hk.o 0 (by kernel_rfl)
                  clear hk
                  go_simp
                  exact hK _ _ (Ext.refl _) (fun d hd => by cases hd; rfl)
                · intro a W2 hk
                  refine Flow.does_intro rfl (fun K hK => ?_)
                  have e103 : a.tmps[103]?.getD undef = _ := hk.v 103 (by kernel_rfl)
                  clear hk
                  go_simp
                  exact hK _ _ (Ext.refl _) (fun d hd => by cases hd; rfl)
                · intro a W2 hk
                  refine Flow.does_intro rfl (fun K hK => ?_)
                  have e104 : a.tmps[104]?.getD undef = _ := hk.v 104 (by kernel_rfl)
                  clear hk
                  go_simp
                  exact hK _ _ (Ext.refl _) (fun d hd => by cases hd; first | rfl | (simp [SP.eq, hm.out]) | (simp [SP.eq]; omega))
                · intro a W2 hk
                  refine Flow.does_intro rfl (fun K hK => ?_)
                  have e105 : a.tmps[105]?.getD undef = _ := hk.v 105 (by kernel_rfl)
                  clear hk
                  go_simp
                  exact hK _ _ (Ext.refl _) (fun d hd => by cases hd; rfl)
                · intro a W2 hk
                  have eg : a.tmps[106]?.getD undef = .bool true := hk.v 106 (by kernel_rfl)
                  refine Flow.does_intro (wanted_yes rfl rfl eg) (fun K hK => ?_)
                  clear eg
                  have e5 : a.tmps[5]?.getD undef = .pointer (some ⟨pA, 0, none⟩) := hk.o 5 (by kernel_rfl)
                  clear hk
                  go_simp
                  exact hK _ _ (Ext.refl _) (fun d hd => by cases hd; rfl)
                · intro a W2 hk
                  have eg : a.tmps[106]?.getD undef = .bool true := hk.v 106 (by kernel_rfl)
                  refine Flow.does_intro (wanted_yes rfl rfl eg) (fun K hK => ?_)
                  clear eg
                  have e107 : a.tmps[107]?.getD undef = _ := hk.v 107 (by kernel_rfl)
                  have g := (kbA2.out.ext ((Ext.drew W).trans hk.ext)).cell
                  clear hk
                  go_simp
                  exact hK _ _ (Ext.refl _) (fun d hd => by cases hd; rfl)
                · intro a W2 hk
                  have eg : a.tmps[106]?.getD undef = .bool true := hk.v 106 (by kernel_rfl)
                  refine Flow.does_intro (wanted_yes rfl rfl eg) (fun K hK => ?_)
                  clear eg
                  have e0 : a.tmps[0]?.getD undef = .slice (some ⟨b, off, none⟩) l.length c := hk.o 0 (by kernel_rfl)
                  clear hk
                  go_simp
                  exact hK _ _ (Ext.refl _) (fun d hd => by cases hd; rfl)
                · intro a W2 hk
                  have eg : a.tmps[106]?.getD undef = .bool true := hk.v 106 (by kernel_rfl)
                  refine Flow.does_intro (wanted_yes rfl rfl eg) (fun K hK => ?_)
                  clear eg
                  have e0 : a.tmps[0]?.getD undef = .slice (some ⟨b, off, none⟩) l.length c := hk.o 0 (by kernel_rfl)
                  clear hk
                  go_simp
                  exact hK _ _ (Ext.refl _) (fun d hd => by cases hd; rfl)
                · intro a W2 hk
                  have eg : a.tmps[106]?.getD undef = .bool true := hk.v 106 (by kernel_rfl)
                  refine Flow.does_intro (wanted_yes rfl rfl eg) (fun K hK => ?_)
                  clear eg
                  have e110 : a.tmps[110]?.getD undef = _ := hk.v 110 (by kernel_rfl)
                  clear hk
                  go_simp
                  exact hK _ _ (Ext.refl _) (fun d hd => by cases hd; rfl)
                · intro a W2 hk
                  have eg : a.tmps[106]?.getD undef = .bool true := hk.v 106 (by kernel_rfl)
                  refine Flow.does_intro (wanted_yes rfl rfl eg) (fun K hK => ?_)
                  clear eg
                  have e111 : a.tmps[111]?.getD undef = _ := hk.v 111 (by kernel_rfl)
                  clear hk
                  go_simp
                  exact hK _ _ (Ext.refl _) (fun d hd => by cases hd; first | rfl | (simp [SP.eq, hm.out]; have h1 := hm.out; have h2 := hmlt.out; rw [IntKind.wrap_i64]; omega))
                · intro a W2 hk
                  have eg : a.tmps[106]?.getD undef = .bool true := hk.v 106 (by kernel_rfl)
                  refine Flow.does_intro (wanted_yes rfl rfl eg) (fun K hK => ?_)
                  clear eg
                  have e109 : a.tmps[109]?.getD undef = _ := hk.v 109 (by kernel_rfl)
                  have e112 : a.tmps[112]?.getD undef = _ := hk.v 112 (by kernel_rfl)
                  have hmlt2 := hmlt.out
                  clear hk
                  go_simp
                  exact hK _ _ (Ext.refl _) (fun d hd => by cases hd; rfl)
                · intro a W2 hk
                  have eg : a.tmps[106]?.getD undef = .bool true := hk.v 106 (by kernel_rfl)
                  refine Flow.does_intro (wanted_yes rfl rfl eg) (fun K hK => ?_)
                  clear eg
                  have e113 : a.tmps[113]?.getD undef = _ := hk.v 113 (by kernel_rfl)
                  have g := Ext.cell ((Ext.drew W).trans hk.ext) kn.out
                  clear hk
                  go_simp
                  exact hK _ _ (Ext.refl _) (fun d hd => by cases hd; rfl)
                · intro a W2 hk
                  have eg : a.tmps[106]?.getD undef = .bool true := hk.v 106 (by kernel_rfl)
                  refine Flow.does_intro (wanted_yes rfl rfl eg) (fun K hK => ?_)
                  clear eg
                  have e108 : a.tmps[108]?.getD undef = _ := hk.v 108 (by kernel_rfl)
                  have e114 : a.tmps[114]?.getD undef = _ := hk.v 114 (by kernel_rfl)
                  clear hk
                  go_simp
                  exact hK _ _ (Ext.refl _) (fun d hd => by cases hd; rfl)
                · intro a W2 hk
                  refine Flow.does_intro rfl (fun K hK => ?_)
                  have e106 : a.tmps[106]?.getD undef = _ := hk.v 106 (by kernel_rfl)
                  have e115 : a.tmps[115]?.getD undef = _ := hk.v 115 (by kernel_rfl)
                  clear hk
                  go_simp
                  exact hK _ _ (Ext.refl _) (fun d hd => by cases hd; rfl)
              · intro a W2 he
                have hxW2 := Hd.mk (kx2.out.trans ((Ext.drew W).trans he.ext))
                obtain ⟨us, hA, hF⟩ := he.out [103, 104, 105, 106, 107, 108, 109, 110, 111, 112, 113, 114, 115, 116] (by kernel_rfl)
                simp only [Flow.fillL, List.contains_cons, List.contains_nil, Nat.reduceBEq, Bool.or_false, Bool.false_or, Bool.or_true, Bool.true_or, ↓reduceIte, Nat.reduceAdd, Bool.false_eq_true] at hA
                subst hA
                have f6 : us 116 = .bool false := hF 116 (by simp)
                clear hF he
                rw [f6]
                clear f6
                refine (show wpList _ _ _ [] _ _ from ?_)
                go_wp2_with fail
                go_roundg (5 - (1 + 1))
                case measure => have := hq.out; omega
                case rel => exact ⟨1 + 1, by omega, by omega, ⟨rfl⟩, by go_num, hxW2⟩
          · have hd : (sA.name.toList == [108, 105, 109, 105, 116]) = false := by
              rw [show ([108, 105, 109, 105, 116] : List UInt8) = (⟨#[108, 105, 109, 105, 116]⟩ : ByteArray).toList from by kernel_rfl, str_eq]
              simpa using hl
            clear hlaw2 hnn hlike e1 e2 e3 e4 e5 e6 e7
            go_wp2_with fail
            generalize w2.alloc _ = W at *
            rcases Nat.eq_zero_or_pos l.length with hl0 | hlp
            · refine Flow.wp_region_flow_l (fun t => match t with
                | 103 => SP.eq (.slice A l.length c)
                | 104 => SP.eq (.int .i64 (l.length : Nat))
                | 105 => SP.eq (.bool false)
                | 106 => SP.eq (.bool false)
                | 116 => SP.eq (.bool false)
                | _ => SP.any) 14 (by kernel_rfl) 117 rfl (by kernel_rfl) ?_ ?_
              · skip
                refine ⟨?_, ?_, ?_, ?_, ?_, ?_, ?_, ?_, ?_, ?_, ?_, ?_, ?_, ?_, trivial⟩
                · intro a W2 hk
                  refine Flow.does_intro rfl (fun K hK => ?_)
                  have e0 : a.tmps[0]?.getD undef = .slice A l.length c := hk.o 0 (by kernel_rfl)
                  clear hk
                  go_simp
                  exact hK _ _ (Ext.refl _) (fun d hd => by cases hd; first | rfl | (simp [SP.eq, hl0]))
                · intro a W2 hk
                  refine Flow.does_intro rfl (fun K hK => ?_)
                  have e103 : a.tmps[103]?.getD undef = _ := hk.v 103 (by kernel_rfl)
                  clear hk
                  go_simp
                  exact hK _ _ (Ext.refl _) (fun d hd => by cases hd; first | rfl | (simp [SP.eq, hl0]))
                · intro a W2 hk
                  refine Flow.does_intro rfl (fun K hK => ?_)
                  have e104 : a.tmps[104]?.getD undef = _ := hk.v 104 (by kernel_rfl)
                  clear hk
                  go_simp
                  try simp only [hl0] at *
                  exact hK _ _ (Ext.refl _) (fun d hd => by cases hd; first | rfl | (simp [SP.eq, hl0]))
                · intro a W2 hk
                  refine Flow.does_intro rfl (fun K hK => ?_)
                  have e105 : a.tmps[105]?.getD undef = _ := hk.v 105 (by kernel_rfl)
                  clear hk
                  go_simp
                  exact hK _ _ (Ext.refl _) (fun d hd => by cases hd; first | rfl | (simp [SP.eq, hl0]))
                · intro a W2 hk
                  have eg : a.tmps[106]?.getD undef = .bool false := hk.v 106 (by kernel_rfl)
                  exact Flow.does_skip (wanted_no rfl rfl eg) (fun d hd => by cases hd; trivial)
                · intro a W2 hk
                  have eg : a.tmps[106]?.getD undef = .bool false := hk.v 106 (by kernel_rfl)
                  exact Flow.does_skip (wanted_no rfl rfl eg) (fun d hd => by cases hd; trivial)
                · intro a W2 hk
                  have eg : a.tmps[106]?.getD undef = .bool false := hk.v 106 (by kernel_rfl)
                  exact Flow.does_skip (wanted_no rfl rfl eg) (fun d hd => by cases hd; trivial)
                · intro a W2 hk
                  have eg : a.tmps[106]?.getD undef = .bool false := hk.v 106 (by kernel_rfl)
                  exact Flow.does_skip (wanted_no rfl rfl eg) (fun d hd => by cases hd; trivial)
                · intro a W2 hk
                  have eg : a.tmps[106]?.getD undef = .bool false := hk.v 106 (by kernel_rfl)
                  exact Flow.does_skip (wanted_no rfl rfl eg) (fun d hd => by cases hd; trivial)
                · intro a W2 hk
                  have eg : a.tmps[106]?.getD undef = .bool false := hk.v 106 (by kernel_rfl)
                  exact Flow.does_skip (wanted_no rfl rfl eg) (fun d hd => by cases hd; trivial)
                · intro a W2 hk
                  have eg : a.tmps[106]?.getD undef = .bool false := hk.v 106 (by kernel_rfl)
                  exact Flow.does_skip (wanted_no rfl rfl eg) (fun d hd => by cases hd; trivial)
                · intro a W2 hk
                  have eg : a.tmps[106]?.getD undef = .bool false := hk.v 106 (by kernel_rfl)
                  exact Flow.does_skip (wanted_no rfl rfl eg) (fun d hd => by cases hd; trivial)
                · intro a W2 hk
                  have eg : a.tmps[106]?.getD undef = .bool false := hk.v 106 (by kernel_rfl)
                  exact Flow.does_skip (wanted_no rfl rfl eg) (fun d hd => by cases hd; trivial)
                · intro a W2 hk
                  refine Flow.does_intro rfl (fun K hK => ?_)
                  have e106 : a.tmps[106]?.getD undef = _ := hk.v 106 (by kernel_rfl)
                  clear hk
                  go_simp
                  exact hK _ _ (Ext.refl _) (fun d hd => by cases hd; first | rfl | (simp [SP.eq, hl0]))
              · intro a W2 he
                have hxW2 := Hd.mk (kx2.out.trans ((Ext.drew W).trans he.ext))
                obtain ⟨us, hA, hF⟩ := he.out [103, 104, 105, 106, 107, 108, 109, 110, 111, 112, 113, 114, 115, 116] (by kernel_rfl)
                simp only [Flow.fillL, List.contains_cons, List.contains_nil, Nat.reduceBEq, Bool.or_false, Bool.false_or, Bool.or_true, Bool.true_or, ↓reduceIte, Nat.reduceAdd, Bool.false_eq_true] at hA
                subst hA
                have f6 : us 116 = .bool false := hF 116 (by simp)
                clear hF he
                rw [f6]
                clear f6
                refine (show wpList _ _ _ [] _ _ from ?_)
                go_wp2_with fail
                go_roundg (5 - (v + 1))
                case measure => have := hq.out; omega
                case rel => exact ⟨v + 1, by omega, by omega, ⟨rfl⟩, by go_num, hxW2⟩
            · obtain ⟨m, hm⟩ : ∃ m, l.length = m + 1 := ⟨l.length - 1, by omega⟩
              replace hm := Hd.mk hm
              have hmlt := Hd.mk (show m < l.length from by have := hm.out; omega)
              obtain ⟨b, off, rfl, kn0⟩ := (hr.out.ext kx2.out) m sA.name (last_get hm.out hlast2.out)
              have kn := Hd.mk kn0
              clear kn0
              refine Flow.wp_region_flow_l (fun t => match t with
                | 103 => SP.eq (.slice (some ⟨b, off, none⟩) l.length c)
                | 104 => SP.eq (.int .i64 (l.length : Nat))
                | 105 => SP.eq (.bool true)
                | 106 => SP.eq (.bool true)
                | 107 => SP.eq (.pointer (some ⟨pA, 0, none⟩))
                | 108 => SP.eq (.string sA.name)
                | 109 => SP.eq (.slice (some ⟨b, off, none⟩) l.length c)
                | 110 => SP.eq (.slice (some ⟨b, off, none⟩) l.length c)
                | 111 => SP.eq (.int .i64 (l.length : Nat))
                | 112 => SP.eq (.int .i64 (m : Nat))
                | 113 => SP.eq (.pointer (some ⟨b, off + m, none⟩))
                | 114 => SP.eq (.string sA.name)
                | 115 => SP.eq (.bool false)
                | 116 => SP.eq (.bool false)
                | _ => SP.any) 14 (by kernel_rfl) 117 rfl (by kernel_rfl) ?_ ?_
              · skip
                refine ⟨?_, ?_, ?_, ?_, ?_, ?_, ?_, ?_, ?_, ?_, ?_, ?_, ?_, ?_, trivial⟩
                · intro a W2 hk
                  refine Flow.does_intro rfl (fun K hK => ?_)
                  have e0 : a.tmps[0]?.getD undef = .slice (some ⟨b, off, none⟩) l.length c := hk.o 0 (by kernel_rfl)
                  clear hk
                  go_simp
                  exact hK _ _ (Ext.refl _) (fun d hd => by cases hd; rfl)
                · intro a W2 hk
                  refine Flow.does_intro rfl (fun K hK => ?_)
                  have e103 : a.tmps[103]?.getD undef = _ := hk.v 103 (by kernel_rfl)
                  clear hk
                  go_simp
                  exact hK _ _ (Ext.refl _) (fun d hd => by cases hd; rfl)
                · intro a W2 hk
                  refine Flow.does_intro rfl (fun K hK => ?_)
                  have e104 : a.tmps[104]?.getD undef = _ := hk.v 104 (by kernel_rfl)
                  clear hk
                  go_simp
                  exact hK _ _ (Ext.refl _) (fun d hd => by cases hd; first | rfl | (simp [SP.eq, hm.out]) | (simp [SP.eq]; omega))
                · intro a W2 hk
                  refine Flow.does_intro rfl (fun K hK => ?_)
                  have e105 : a.tmps[105]?.getD undef = _ := hk.v 105 (by kernel_rfl)
                  clear hk
                  go_simp
                  exact hK _ _ (Ext.refl _) (fun d hd => by cases hd; rfl)
                · intro a W2 hk
                  have eg : a.tmps[106]?.getD undef = .bool true := hk.v 106 (by kernel_rfl)
                  refine Flow.does_intro (wanted_yes rfl rfl eg) (fun K hK => ?_)
                  clear eg
                  have e5 : a.tmps[5]?.getD undef = .pointer (some ⟨pA, 0, none⟩) := hk.o 5 (by kernel_rfl)
                  clear hk
                  go_simp
                  exact hK _ _ (Ext.refl _) (fun d hd => by cases hd; rfl)
                · intro a W2 hk
                  have eg : a.tmps[106]?.getD undef = .bool true := hk.v 106 (by kernel_rfl)
                  refine Flow.does_intro (wanted_yes rfl rfl eg) (fun K hK => ?_)
                  clear eg
                  have e107 : a.tmps[107]?.getD undef = _ := hk.v 107 (by kernel_rfl)
                  have g := (kbA2.out.ext ((Ext.drew W).trans hk.ext)).cell
                  clear hk
                  go_simp
                  exact hK _ _ (Ext.refl _) (fun d hd => by cases hd; rfl)
                · intro a W2 hk
                  have eg : a.tmps[106]?.getD undef = .bool true := hk.v 106 (by kernel_rfl)
                  refine Flow.does_intro (wanted_yes rfl rfl eg) (fun K hK => ?_)
                  clear eg
                  have e0 : a.tmps[0]?.getD undef = .slice (some ⟨b, off, none⟩) l.length c := hk.o 0 (by kernel_rfl)
                  clear hk
                  go_simp
                  exact hK _ _ (Ext.refl _) (fun d hd => by cases hd; rfl)
                · intro a W2 hk
                  have eg : a.tmps[106]?.getD undef = .bool true := hk.v 106 (by kernel_rfl)
                  refine Flow.does_intro (wanted_yes rfl rfl eg) (fun K hK => ?_)
                  clear eg
                  have e0 : a.tmps[0]?.getD undef = .slice (some ⟨b, off, none⟩) l.length c := hk.o 0 (by kernel_rfl)
                  clear hk
                  go_simp
                  exact hK _ _ (Ext.refl _) (fun d hd => by cases hd; rfl)
                · intro a W2 hk
                  have eg : a.tmps[106]?.getD undef = .bool true := hk.v 106 (by kernel_rfl)
                  refine Flow.does_intro (wanted_yes rfl rfl eg) (fun K hK => ?_)
                  clear eg
                  have e110 : a.tmps[110]?.getD undef = _ := hk.v 110 (by kernel_rfl)
                  clear hk
                  go_simp
                  exact hK _ _ (Ext.refl _) (fun d hd => by cases hd; rfl)
                · intro a W2 hk
                  have eg : a.tmps[106]?.getD undef = .bool true := hk.v 106 (by kernel_rfl)
                  refine Flow.does_intro (wanted_yes rfl rfl eg) (fun K hK => ?_)
                  clear eg
                  have e111 : a.tmps[111]?.getD undef = _ := hk.v 111 (by kernel_rfl)
                  clear hk
                  go_simp
                  exact hK _ _ (Ext.refl _) (fun d hd => by cases hd; first | rfl | (simp [SP.eq, hm.out]; have h1 := hm.out; have h2 := hmlt.out; rw [IntKind.wrap_i64]; omega))
                · intro a W2 hk
                  have eg : a.tmps[106]?.getD undef = .bool true := hk.v 106 (by kernel_rfl)
                  refine Flow.does_intro (wanted_yes rfl rfl eg) (fun K hK => ?_)
                  clear eg
                  have e109 : a.tmps[109]?.getD undef = _ := hk.v 109 (by kernel_rfl)
                  have e112 : a.tmps[112]?.getD undef = _ := hk.v 112 (by kernel_rfl)
                  have hmlt2 := hmlt.out
                  clear hk
                  go_simp
                  exact hK _ _ (Ext.refl _) (fun d hd => by cases hd; rfl)
                · intro a W2 hk
                  have eg : a.tmps[106]?.getD undef = .bool true := hk.v 106 (by kernel_rfl)
                  refine Flow.does_intro (wanted_yes rfl rfl eg) (fun K hK => ?_)
                  clear eg
                  have e113 : a.tmps[113]?.getD undef = _ := hk.v 113 (by kernel_rfl)
                  have g := Ext.cell ((Ext.drew W).trans hk.ext) kn.out
                  clear hk
                  go_simp
                  exact hK _ _ (Ext.refl _) (fun d hd => by cases hd; rfl)
                · intro a W2 hk
                  have eg : a.tmps[106]?.getD undef = .bool true := hk.v 106 (by kernel_rfl)
                  refine Flow.does_intro (wanted_yes rfl rfl eg) (fun K hK => ?_)
                  clear eg
                  have e108 : a.tmps[108]?.getD undef = _ := hk.v 108 (by kernel_rfl)
                  have e114 : a.tmps[114]?.getD undef = _ := hk.v 114 (by kernel_rfl)
                  clear hk
                  go_simp
                  exact hK _ _ (Ext.refl _) (fun d hd => by cases hd; rfl)
                · intro a W2 hk
                  refine Flow.does_intro rfl (fun K hK => ?_)
                  have e106 : a.tmps[106]?.getD undef = _ := hk.v 106 (by kernel_rfl)
                  have e115 : a.tmps[115]?.getD undef = _ := hk.v 115 (by kernel_rfl)
                  clear hk
                  go_simp
                  exact hK _ _ (Ext.refl _) (fun d hd => by cases hd; rfl)
              · intro a W2 he
                have hxW2 := Hd.mk (kx2.out.trans ((Ext.drew W).trans he.ext))
                obtain ⟨us, hA, hF⟩ := he.out [103, 104, 105, 106, 107, 108, 109, 110, 111, 112, 113, 114, 115, 116] (by kernel_rfl)
                simp only [Flow.fillL, List.contains_cons, List.contains_nil, Nat.reduceBEq, Bool.or_false, Bool.false_or, Bool.or_true, Bool.true_or, ↓reduceIte, Nat.reduceAdd, Bool.false_eq_true] at hA
                subst hA
                have f6 : us 116 = .bool false := hF 116 (by simp)
                clear hF he
                rw [f6]
                clear f6
                refine (show wpList _ _ _ [] _ _ from ?_)
                go_wp2_with fail
                go_roundg (5 - (v + 1))
                case measure => have := hq.out; omega
                case rel => exact ⟨v + 1, by omega, by omega, ⟨rfl⟩, by go_num, hxW2⟩
      · have he2 : (eA != 0) = true := by simpa using he
        go_wp2_with fail
        simp only [cSpec] at kk
        go_roundg (5 - (v + 1))
        case measure => have := hq.out; omega
        case rel => exact ⟨v + 1, by omega, by omega, ⟨rfl⟩, by go_num, ⟨kk.out.2.2⟩⟩
    · have hv : v = 3 := by omega
      subst hv
      go_wp2_with fail
      go_ret
      exact ⟨rfl, hxr.out⟩
  · go_wp2_with fail
    go_ret
    exact ⟨rfl, kx.out⟩

end Go.Proofs.Ytgkgedjmnbjalaa

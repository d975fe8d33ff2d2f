/- Texts that the law needs, joined.
   Conditions: none. -/
import Derived.Test.YtgkgedjmnbjalaaTqB
import Derived.Test.YtgkgedjmnbjalaaTqH
import Derived.Test.YtgkgedjmnbjalaaTqJ
import Derived.Test.YtgkgedjmnbjalaaTqK
import Derived.Test.YtgkgedjmnbjalaaTqC
import Derived.Test.YtgkgedjmnbjalaaTqE
import Derived.Test.YtgkgedjmnbjalaaTqF
set_option linter.unusedSimpArgs false
set_option linter.unusedVariables false
namespace Go.Proofs.Ytgkgedjmnbjalaa
open Go.RowKit Go.Sort
def lfA : T := .mk ⟨#[97]⟩ ⟨#[]⟩ 1 5 ⟨#[]⟩ []
def lfB : T := .mk ⟨#[98]⟩ ⟨#[]⟩ 1 5 ⟨#[]⟩ []
theorem a_lt_b : lessT lfA lfB = true := by kernel_rfl
theorem a_lt_a : lessT lfA lfA = false := lessT_irr _
def n9 : T := zeroT.wk [lfA]
def m9 : T := zeroT.wk [lfA, lfB]
def o9 : T := zeroT.wk [lfB]
theorem ne_ab : stepT lfA ≠ stepT lfB := less_ne a_lt_b
theorem n9_right : rightT n9 = true := by simp [rightT, rightL, n9, zeroT, T.wk, lfA, T.name, T.key, T.kind, T.num, T.text, T.kids]
theorem m9_right : rightT m9 = true := by
  refine (right_box (t := m9) rfl).2 ⟨rfl, rfl, fun x hx => ?_, ?_⟩
  · simp [m9, T.wk, T.kids] at hx
    rcases hx with rfl | rfl <;> simp [rightT, rightL, lfA, lfB, T.kind, T.num, T.text, T.kids]
  · show List.Pairwise _ [lfA, lfB]
    simp [a_lt_b]
theorem set9 : setR n9 [stepT lfB] lfB = (m9, 0) := by
  rw [setR_one, if_pos rfl]
  have h : setL n9.kids lfB = [lfA, lfB] := by
    show setL [lfA] lfB = _
    have : kid [lfA] (stepT lfB) = none := kid_none.2 (fun x hx => by simp at hx; subst hx; exact ne_ab)
    rw [setL, this, if_neg (by simp)]
    simp [insL, a_lt_b]
  rw [h]
  rfl
theorem cut9 : cutR m9 [stepT lfA] = (o9, 0) := by
  rw [cutR_one]
  have h : kid m9.kids (stepT lfA) = some lfA := by simp [kid, m9, T.wk, T.kids]
  rw [h]
  simp [cutL, m9, o9, T.wk, T.kids, T.name, T.key, T.kind, T.num, T.text]
theorem get9b : getT o9 [stepT lfB] = some lfB := by rw [getT_one]; simp [kid, o9, T.wk, T.kids]
theorem get9a : getT o9 [stepT lfA] = none := by rw [getT_one]; exact kid_none.2 (fun x hx => by simp [o9, T.wk, T.kids] at hx; subst hx; exact Ne.symm ne_ab)
theorem size9 : m9.size = 3 := rfl
theorem same9 : sameT n9 n9 = true ∧ sameT n9 m9 = false := by
  refine ⟨sameT_rfl _, ?_⟩
  cases h : sameT n9 m9 with
  | false => rfl
  | true => have := congrArg (fun t => t.kids.length) (sameT_iff.1 h); cases this
theorem sort9 : (sortT m9).kids.length = 2 := by rw [sortT_right _ m9_right]; rfl
theorem run_kids (a b c d e f : Value) (w : World) : Sem.run Try.prog (Instr.field 54 (.agg #[a, b, c, d, e, f]) 3) w = .ok f w := by
  have h1 := Try.underlying54
  have h2 := Try.underlying52
  simp [Instr.field, Sem.run_bind, Result.andThen, asAgg, part, isAgg, underlying, h1, h2]
theorem lf_rt (w : World) (nm : ByteArray) : RT (fun _ => True) w (.mk nm ⟨#[]⟩ 1 5 ⟨#[]⟩ []) [.string nm, .string ⟨#[]⟩, .int .i64 1, .int .u64 5, .string ⟨#[]⟩, .slice none 0 0] :=
  RT.of_row (t := .mk nm ⟨#[]⟩ 1 5 ⟨#[]⟩ []) (K := none) (kc := 0) (RRow.nil _ _ _ _ (fun _ => rfl))
theorem n9_rt {w : World} {g : Nat} (h : Blk w g [.string ⟨#[97]⟩, .string ⟨#[]⟩, .int .i64 1, .int .u64 5, .string ⟨#[]⟩, .slice none 0 0] 54) : RT (fun _ => True) w n9 [.string ⟨#[]⟩, .string ⟨#[]⟩, .int .i64 0, .int .u64 0, .string ⟨#[]⟩, .slice (some ⟨g, 0, none⟩) 1 1] :=
  RT.of_row (t := n9) (K := some ⟨g, 0, none⟩) (kc := 1) ⟨Nat.le_refl _, by simp [n9, T.wk, T.kids], fun h => (by cases h), fun i k hi => by
    cases i with
    | zero => simp [n9, T.wk, T.kids] at hi; subst hi; exact ⟨g, 0, _, rfl, trivial, lf_rt w ⟨#[97]⟩, fun j v hv => by rw [show 0 + 0 * 6 + j = j by omega, h.cell]; exact hv⟩
    | succ i => simp [n9, T.wk, T.kids] at hi⟩
theorem way1 {w : World} {g : Nat} {nm : ByteArray} (h : Blk w g [.string nm, .string ⟨#[]⟩] 65) : WRow (fun _ => True) w (some ⟨g, 0, none⟩) [(nm, ⟨#[]⟩)] 1 :=
  ⟨Nat.le_refl _, by simp, fun h => (by cases h), fun _ => ⟨g, 0, rfl, trivial, fun j v hv => by rw [Nat.zero_add, h.cell]; exact hv⟩⟩
set_option maxRecDepth 100000 in
set_option maxHeartbeats 2000000 in
theorem law_leaf (nm : ByteArray) (w : World) : Calls Try.prog 113 #[.string nm] w fun e w' => e = .returned (.agg #[.string nm, .string ⟨#[]⟩, .int .i64 1, .int .u64 5, .string ⟨#[]⟩, .slice none 0 0]) ∧ Ext w w' := by
  go_enter Try.func113, Try.ntmps113
  go_wp2_with fail
  exact ret_box rfl w.heap.size _ 54 _ (Blk.new w #[.string nm, .string ⟨#[]⟩, .int .i64 1, .int .u64 5, .string ⟨#[]⟩, .slice none 0 0] 54) rfl rfl Try.underlying54 rfl size54 ⟨rfl, Ext.alloc _ _⟩
set_option maxRecDepth 100000 in
set_option maxHeartbeats 2000000 in
theorem awake09 (w : World) : Calls Try.prog 59 #[] w fun e w' => e = .returned (.bool true) ∧ Ext w w' := by
  go_enter Try.func59, Try.ntmps59
  go_wp2_with fail
  refine Calls.mono (law_leaf ⟨#[97]⟩ _) ?_
  rintro e w1 ⟨rfl, hx⟩
  go_wp2_with fail
  have hset := Hd.mk (fun W' A' c' (h : RT (fun _ => True) W' n9 c') (hw : WRow (fun _ => True) W' A' [stepT lfB] 1) => (show Calls Try.prog 70 _ W' (Ret (NewPost m9 [.int .i64 0] W')) from by have h9 := tree_set n9 lfB [stepT lfB] (fun _ => True) (fun _ => True) (fun _ => True) W' c' _ A' 1 h (lf_rt W' ⟨#[98]⟩) hw n9_right (by decide); rw [set9] at h9; exact Calls.mono h9 (fun e' w'' ⟨v, h1, c, h2, h3, h4⟩ => ⟨v, h1, c, h2, h3.rt.mono fun b _ hb => hb.1, h4⟩)))
  have kx := Hd.mk ((hx.trans (Ext.alloc w1 (.cells #[.string ⟨#[97]⟩, .string ⟨#[]⟩, .int .i64 1, .int .u64 5, .string ⟨#[]⟩, .slice none 0 0] 54))).trans (Ext.alloc _ (.cells #[.string ⟨#[]⟩, .string ⟨#[]⟩, .int .i64 0, .int .u64 0, .string ⟨#[]⟩, .slice (some ⟨w1.heap.size, 0, none⟩) 1 1] 54)))
  have kL := Hd.mk ((Blk.new w1 #[.string ⟨#[97]⟩, .string ⟨#[]⟩, .int .i64 1, .int .u64 5, .string ⟨#[]⟩, .slice none 0 0] 54).alloc (.cells #[.string ⟨#[]⟩, .string ⟨#[]⟩, .int .i64 0, .int .u64 0, .string ⟨#[]⟩, .slice (some ⟨w1.heap.size, 0, none⟩) 1 1] 54))
  have kN := Hd.mk (Blk.new2 w1 (.cells #[.string ⟨#[97]⟩, .string ⟨#[]⟩, .int .i64 1, .int .u64 5, .string ⟨#[]⟩, .slice none 0 0] 54) #[.string ⟨#[]⟩, .string ⟨#[]⟩, .int .i64 0, .int .u64 0, .string ⟨#[]⟩, .slice (some ⟨w1.heap.size, 0, none⟩) 1 1] 54)
  clear hx
  generalize hpL : w1.heap.size = pL at *
  replace hpL := Hd.mk hpL
  generalize (w1.alloc _).alloc _ = W at *
  have hrn := Hd.mk (n9_rt kL.out)
  clear kL
  refine FlowJ.wp_region_flow_l (x := 8) (tx := 2) (Y := [(4, 18), (5, 13), (6, 19)]) (J := JX m9 [.int .i64 0]) (G := GX 2 m9) (gx_ext _ _) (R := Rb W.heap.size) 9 (fun _ _ h => rb_ext h) (fun h k => rb_trans h k) (fun qq => match qq with
    | 14 => SP.eq (.agg #[.string ⟨#[]⟩, .string ⟨#[]⟩, .int .i64 0, .int .u64 0, .string ⟨#[]⟩, .slice (some ⟨pL, 0, none⟩) 1 1])
    | 15 => SP.eq (.agg #[.string ⟨#[98]⟩, .string ⟨#[]⟩])
    | 16 => spRow1 [.string ⟨#[98]⟩, .string ⟨#[]⟩] 65
    | 17 => SP.eq (.agg #[.string ⟨#[98]⟩, .string ⟨#[]⟩, .int .i64 1, .int .u64 5, .string ⟨#[]⟩, .slice none 0 0])
    | 18 => spTupX m9 [.int .i64 0]
    | 13 => spTupX m9 [.int .i64 0]
    | 19 => spAggX m9
    | 20 => SP.eq (.int .i64 0)
    | 2 => spBoxE W.heap.size
    | _ => SP.any) (FlowJ.over [(18, spFormX [.int .i64 0]), (13, spFormX [.int .i64 0]), (19, SP.any), (16, SP.any)] (fun qq => match qq with
    | 14 => SP.eq (.agg #[.string ⟨#[]⟩, .string ⟨#[]⟩, .int .i64 0, .int .u64 0, .string ⟨#[]⟩, .slice (some ⟨pL, 0, none⟩) 1 1])
    | 15 => SP.eq (.agg #[.string ⟨#[98]⟩, .string ⟨#[]⟩])
    | 16 => spRow1 [.string ⟨#[98]⟩, .string ⟨#[]⟩] 65
    | 17 => SP.eq (.agg #[.string ⟨#[98]⟩, .string ⟨#[]⟩, .int .i64 1, .int .u64 5, .string ⟨#[]⟩, .slice none 0 0])
    | 18 => spTupX m9 [.int .i64 0]
    | 13 => spTupX m9 [.int .i64 0]
    | 19 => spAggX m9
    | 20 => SP.eq (.int .i64 0)
    | 2 => spBoxE W.heap.size
    | _ => SP.any)) 10 (by kernel_rfl) 105 rfl (by kernel_rfl) (of_decide_eq_true (by kernel_rfl)) (by decide) (by kernel_rfl) ?_ ?_ ?_ ?_ ?_
  · refine ⟨by decide, rfl, by kernel_rfl, ?_, jx_mono _ _⟩
    intro q hq
    simp only [List.mem_cons, List.not_mem_nil, or_false] at hq
    rcases hq with rfl | rfl | rfl
    all_goals exact ⟨by decide, by decide, by decide, rfl, by kernel_rfl⟩
  · refine FlowJ.over_weak (fun q hq => ?_)
    simp only [List.mem_cons, List.not_mem_nil, or_false] at hq
    rcases hq with rfl | rfl | rfl | rfl
    · exact fun u v1 ⟨c, e, _⟩ => ⟨c, e⟩
    · exact fun u v1 ⟨c, e, _⟩ => ⟨c, e⟩
    · exact fun u v1 _ => trivial
    · exact fun u v1 _ => trivial
  · intro q hq u' v1 v2 hR
    by_cases q0 : q = 18
    · subst q0; exact fun ⟨c, e, _⟩ => ⟨c, e⟩
    by_cases q1 : q = 13
    · subst q1; exact fun ⟨c, e, _⟩ => ⟨c, e⟩
    by_cases q2 : q = 19
    · subst q2; exact fun _ => trivial
    by_cases q3 : q = 16
    · subst q3; exact fun _ => trivial
    rw [over_ne q0, over_ne q1, over_ne q2, over_ne q3]
    simp only [FlowJ.over]
    split
    all_goals first | exact fun h => h | exact absurd rfl q0 | exact absurd rfl q1 | exact absurd rfl q2 | exact absurd rfl q3 | exact fun ⟨D, e, h1, c, hb, hc⟩ => ⟨D, e, h1, hR.2.2 D c hb hc⟩
  · refine ⟨?_, ?_, ?_, ?_, ?_, ?_, ?_, ?_, ?_, ?_, trivial⟩
    · intro act W2 hk
      refine FlowJ.does_intro rfl (fun Kq hK => ?_)
      have e1 : act.tmps[1]?.getD undef = .pointer (some ⟨pL + 1, 0, none⟩) := hk.o 1 (by kernel_rfl)
      have g := ((kN.out).ext ((Ext.drew W).trans (hk.early (.inr (by kernel_rfl))))).cell
      clear hk
      go_simp
      exact hK _ _ (Ext.refl _) (xt_no (by decide) (by decide) (by decide)) (fun d hd => by cases hd; first | rfl | (simp [SP.eq]; omega))
    · intro act W2 hk
      refine FlowJ.does_intro rfl (fun Kq hK => ?_)
      clear hk
      go_simp
      exact hK _ _ (Ext.refl _) (xt_no (by decide) (by decide) (by decide)) (fun d hd => by cases hd; first | rfl | (simp [SP.eq]; omega))
    · intro act W2 hk
      refine FlowJ.does_intro rfl (fun Kq hK => ?_)
      have e15 : act.tmps[15]?.getD undef = .agg #[.string ⟨#[98]⟩, .string ⟨#[]⟩] := hk.ve 15 (by kernel_rfl) (by kernel_rfl)
      clear hk
      go_simp
      exact hK _ _ (Ext.alloc _ _) (xt_no (by decide) (by decide) (by decide)) (fun d hd => by cases hd; exact ⟨_, rfl, Blk.new _ _ _⟩)
    · intro act W2 hk
      refine FlowJ.does_intro rfl (fun Kq hK => ?_)
      clear hk
      go_simp
      refine Calls.mono (law_leaf ⟨#[98]⟩ _) ?_
      rintro e W3 ⟨rfl, hx⟩
      exact hK _ _ hx (xt_no (by decide) (by decide) (by decide)) (fun d hd => by cases hd; rfl)
    · intro act W2 hk
      refine FlowJ.does_intro rfl (fun Kq hK => ?_)
      have e14 : act.tmps[14]?.getD undef = .agg #[.string ⟨#[]⟩, .string ⟨#[]⟩, .int .i64 0, .int .u64 0, .string ⟨#[]⟩, .slice (some ⟨pL, 0, none⟩) 1 1] := hk.ve 14 (by kernel_rfl) (by kernel_rfl)
      obtain ⟨D9, e16, hD9⟩ := (hk.ve 16 (by kernel_rfl) (by kernel_rfl) : (spRow1 [.string ⟨#[98]⟩, .string ⟨#[]⟩] 65).p _ _)
      have e17 : act.tmps[17]?.getD undef = .agg #[.string ⟨#[98]⟩, .string ⟨#[]⟩, .int .i64 1, .int .u64 5, .string ⟨#[]⟩, .slice none 0 0] := hk.ve 17 (by kernel_rfl) (by kernel_rfl)
      have hx0 := Hd.mk ((Ext.drew W).trans (hk.early (.inr (by kernel_rfl))))
      replace hD9 := Hd.mk hD9
      clear hk
      go_simp
      refine Calls.mono (hset.out _ _ _ (hrn.out.ext hx0.out) (way1 hD9.out)) ?_
      rintro e W3 ⟨_, rfl, c9, rfl, hr9, hx⟩
      exact hK _ _ hx ⟨fun h => absurd h (by decide), fun h => absurd h (by decide), fun q hq h u hu _ => jx_call hr9 hu⟩ (fun d hd => by cases hd; exact ⟨c9, rfl, hr9.mono fun _ _ _ => trivial⟩)
    · intro act W2 hk
      refine FlowJ.does_intro rfl (fun Kq hK => ?_)
      obtain ⟨c9, e18, hr9⟩ := (hk.ve 18 (by kernel_rfl) (by kernel_rfl) : (spTupX m9 [.int .i64 0]).p _ _)
      clear hk
      go_simp
      refine hK _ _ (Ext.refl _) ⟨fun h => absurd h (by decide), fun h => absurd h (by decide), fun q hq h u hu hj => ?_⟩ (fun d hd => by cases hd; exact ⟨c9, rfl, hr9⟩)
      have h1 := hj (4, 18) (by simp) (by kernel_rfl)
      rw [Array.getD_eq_getD_getElem?] at h1
      rw [e18] at h1
      exact h1
    · intro act W2 hk
      refine FlowJ.does_intro rfl (fun Kq hK => ?_)
      obtain ⟨c9, e13, hr9⟩ := (hk.ve 13 (by kernel_rfl) (by kernel_rfl) : (spTupX m9 [.int .i64 0]).p _ _)
      clear hk
      go_simp
      refine hK _ _ (Ext.refl _) ⟨fun h => absurd h (by decide), fun h => absurd h (by decide), fun q hq h u hu hj => ?_⟩ (fun d hd => by cases hd; exact ⟨c9, rfl, hr9⟩)
      have h1 := hj (5, 13) (by simp) (by kernel_rfl)
      rw [Array.getD_eq_getD_getElem?] at h1
      rw [e13] at h1
      exact jx_take h1
    · intro act W2 hk
      refine FlowJ.does_intro rfl (fun Kq hK => ?_)
      obtain ⟨c9, e13⟩ := (hk.v 13 (by kernel_rfl) : (spFormX [.int .i64 0]).p _ _)
      clear hk
      go_simp
      exact hK _ _ (Ext.refl _) (xt_no (by decide) (by decide) (by decide)) (fun d hd => by cases hd; first | rfl | (simp [SP.eq]; omega))
    · intro act W2 hk
      refine FlowJ.does_intro rfl (fun Kq hK => ?_)
      have hx0 := Hd.mk ((Ext.drew W).trans (hk.early (.inr (by kernel_rfl))))
      clear hk
      go_simp
      refine hK _ _ (Ext.alloc _ _) ⟨fun h => absurd h (by decide), fun h q hq u hu => ?_, fun q hq h => ?_⟩ (fun d hd => by cases hd; exact ⟨_, rfl, hx0.out.size, _, Blk.new _ _ _, rfl⟩)
      · simp only [List.mem_cons, List.not_mem_nil, or_false] at hq
        rcases hq with rfl | rfl | rfl
        · exact jx_alloc (.inl hu)
        · exact jx_alloc (.inl hu)
        · exact jx_alloc (.inr hu)
      · simp only [List.mem_cons, List.not_mem_nil, or_false] at hq
        rcases hq with rfl | rfl | rfl <;> cases h
    · intro act W2 hk
      refine FlowJ.does_intro rfl (fun Kq hK => ?_)
      obtain ⟨c9, e19, hr9⟩ := (hk.ve 19 (by kernel_rfl) (by kernel_rfl) : (spAggX m9).p _ _)
      obtain ⟨D, e2, hDn, cD, hD, hc6⟩ := (hk.ve 2 (by kernel_rfl) (by kernel_rfl) : (spBoxE _).p _ _)
      have hrel := hk.rel rfl (6, 19) (by simp)
      simp only [Array.getD_eq_getD_getElem?] at hrel
      rw [e19, e2] at hrel
      have hrt := Hd.mk (hrel D c9 rfl (.inr rfl))
      clear hrel hk
      obtain ⟨Ku, ku, rfl, _⟩ := hr9.row
      simp only [cT] at hrt e19
      clear hr9
      obtain ⟨x0, x1, x2, x3, x4, x5, rfl⟩ : ∃ x0 x1 x2 x3 x4 x5, cD = [x0, x1, x2, x3, x4, x5] := by match cD, hc6 with | [a, b, c, d, e, f], _ => exact ⟨a, b, c, d, e, f, rfl⟩
      have kD := Hd.mk hD
      have eA := Hd.mk e2
      have gD := kD.out.cell
      have fD := kD.out.free
      clear hD
      go_simp
      have hu := ((((((Upd.setCell W2 ⟨D, 0, none⟩ (.string m9.name)).trans (Upd.setCell _ ⟨D, 1, none⟩ (.string m9.key))).trans (Upd.setCell _ ⟨D, 2, none⟩ (.int .i64 m9.kind))).trans (Upd.setCell _ ⟨D, 3, none⟩ (.int .u64 m9.num))).trans (Upd.setCell _ ⟨D, 4, none⟩ (.string m9.text))).trans (Upd.setCell _ ⟨D, 5, none⟩ (.slice Ku m9.kids.length ku)))
      have kDn := ((((((kD.out.setCell 0 (.string m9.name)).setCell 1 (.string m9.key)).setCell 2 (.int .i64 m9.kind)).setCell 3 (.int .u64 m9.num)).setCell 4 (.string m9.text)).setCell 5 (.slice Ku m9.kids.length ku))
      refine hK undef _ (rb_upd hDn hu ⟨_, kDn, rfl⟩) ⟨fun _ D2 hD2 => ?_, fun h => absurd h (by decide), fun q hq h => ?_⟩ (fun d hd => by cases hd)
      · have e9b := eA.out
        rw [Array.getD_eq_getD_getElem?] at hD2
        rw [e9b] at hD2
        cases hD2
        exact ⟨_, kDn, hrt.out.upd hu (fun h => h rfl)⟩
      · simp only [List.mem_cons, List.not_mem_nil, or_false] at hq
        rcases hq with rfl | rfl | rfl <;> cases h
  · intro act V2 he
    have hxV2 := Hd.mk (rb_below (rb_trans (rb_ext (Ext.drew W)) he.ext))
    obtain ⟨aP, hG1, hG2⟩ := he.post
    have hG9 := hG2 2 (by kernel_rfl)
    obtain ⟨us, hA, hF⟩ := he.out [14, 15, 16, 17, 18, 13, 19, 20, 2] (by kernel_rfl)
    simp only [Flow.fillL, List.contains_cons, List.contains_nil, Nat.reduceBEq, Bool.or_false, Bool.false_or, Bool.or_true, Bool.true_or, ↓reduceIte, Nat.reduceAdd, Bool.false_eq_true] at hA
    subst hA
    have f20 : us 20 = .int .i64 0 := hF 20 (by simp)
    have f2 : (spBoxE W.heap.size).p (us 2) V2 := hF 2 (by simp)
    clear hF he
    rw [f20]
    clear f20
    have hG9b : aP.tmps.getD 2 undef = us 2 := hG9
    obtain ⟨D, e9, hDn, _⟩ := f2
    rw [e9] at hG9b
    obtain ⟨cD, kD0, hrt⟩ := hG1 D hG9b
    rw [e9]
    clear e9 hG1 hG2 hG9 hG9b
    have hDn := Hd.mk hDn
    have kD := Hd.mk kD0
    obtain ⟨Ku, ku, rfl, _⟩ := hrt.row
    have hrm := Hd.mk hrt
    simp only [cT] at hrm kD
    clear kD0 hrt
    replace kx := Hd.mk (kx.out.trans hxV2.out)
    replace kN := Hd.mk (kN.out.ext hxV2.out)
    replace hrn := Hd.mk (hrn.out.ext hxV2.out)
    replace hrm := Hd.mk (hrm.out.mono (S' := fun _ => True) fun _ _ _ => trivial)
    have kM := kD
    clear kD hDn hxV2 hset
    generalize D = pM at *
    generalize Ku = Km at *
    generalize ku = km at *
    generalize V2 = W3 at *
    refine (show wpList _ _ _ (⟨some 3, .assign (.tmp 20), _, _, _, none⟩ :: _) _ _ from ?_)
    have gM := kM.out.cell
    have gM1 := (kM.out.alloc (.cells #[.string ⟨#[97]⟩, .string ⟨#[]⟩] 65)).cell
    go_wp2_with fail
    have hxw := Ext.alloc W3 (.cells #[.string ⟨#[97]⟩, .string ⟨#[]⟩] 65)
    have kW := Blk.new W3 #[.string ⟨#[97]⟩, .string ⟨#[]⟩] 65
    replace kx := Hd.mk (kx.out.trans hxw)
    replace kN := Hd.mk (kN.out.ext hxw)
    replace hrn := Hd.mk (hrn.out.ext hxw)
    replace kM := Hd.mk (kM.out.ext hxw)
    replace hrm := Hd.mk (hrm.out.ext hxw)
    clear hxw gM gM1
    generalize W3.heap.size = pW at *
    generalize W3.alloc _ = W4 at *
    have hc := tree_cut m9 [stepT lfA] (fun _ => True) (fun _ => True) W4 _ (some ⟨pW, 0, none⟩) 1 hrm.out (way1 kW) (by rw [size9]; omega)
    rw [cut9] at hc
    refine Calls.mono hc ?_
    rintro e w5 ⟨_, rfl, c5, rfl, ho5, hx⟩
    have hr5 := (ho5.rt.mono (S' := fun _ => True) fun _ _ _ => trivial)
    clear ho5 hc kW
    obtain ⟨Ko, ko, rfl, _⟩ := hr5.row
    simp only [cT] at hr5 ⊢
    replace kx := Hd.mk (kx.out.trans hx)
    replace kN := Hd.mk (kN.out.ext hx)
    replace hrn := Hd.mk (hrn.out.ext hx)
    replace kM := Hd.mk (kM.out.ext hx)
    replace hrm := Hd.mk (hrm.out.ext hx)
    clear hx
    go_wp2_with fail
    have hxw := (Ext.alloc w5 (.cells #[.string o9.name, .string o9.key, .int .i64 o9.kind, .int .u64 o9.num, .string o9.text, .slice Ko o9.kids.length ko] 54)).trans (Ext.alloc _ (.cells #[.string ⟨#[98]⟩, .string ⟨#[]⟩] 65))
    have kO := Hd.mk ((Blk.new w5 #[.string o9.name, .string o9.key, .int .i64 o9.kind, .int .u64 o9.num, .string o9.text, .slice Ko o9.kids.length ko] 54).alloc (.cells #[.string ⟨#[98]⟩, .string ⟨#[]⟩] 65))
    have kW := Blk.new2 w5 (.cells #[.string o9.name, .string o9.key, .int .i64 o9.kind, .int .u64 o9.num, .string o9.text, .slice Ko o9.kids.length ko] 54) #[.string ⟨#[98]⟩, .string ⟨#[]⟩] 65
    have hro := Hd.mk (hr5.ext hxw)
    replace kx := Hd.mk (kx.out.trans hxw)
    replace kN := Hd.mk (kN.out.ext hxw)
    replace hrn := Hd.mk (hrn.out.ext hxw)
    replace kM := Hd.mk (kM.out.ext hxw)
    replace hrm := Hd.mk (hrm.out.ext hxw)
    clear hxw hr5
    generalize w5.heap.size = pO at *
    generalize (w5.alloc _).alloc _ = W6 at *
    have hc := tree_get o9 [stepT lfB] (fun _ => True) (fun _ => True) W6 _ (some ⟨pO + 1, 0, none⟩) 1 hro.out (way1 kW)
    rw [get9b] at hc
    refine Calls.mono hc ?_
    rintro e w6 ⟨_, rfl, hx, hres⟩
    rcases hres with ⟨h9, _⟩ | ⟨u9, c6, hu9, rfl, ho6⟩
    · cases h9
    obtain rfl : lfB = u9 := Option.some.inj hu9
    obtain ⟨Kb, kb, _, _, rfl, _⟩ := ho6.row
    simp only [cT]
    clear hu9 ho6 hc kW
    replace kx := Hd.mk (kx.out.trans hx)
    replace kN := Hd.mk (kN.out.ext hx)
    replace hrn := Hd.mk (hrn.out.ext hx)
    replace kM := Hd.mk (kM.out.ext hx)
    replace hrm := Hd.mk (hrm.out.ext hx)
    replace kO := Hd.mk (kO.out.ext hx)
    replace hro := Hd.mk (hro.out.ext hx)
    clear hx
    have gO := (kO.out.alloc (.cells #[.string lfB.name, .string lfB.key, .int .i64 lfB.kind, .int .u64 lfB.num, .string lfB.text, .slice Kb lfB.kids.length kb] 54)).cell
    go_wp2_with fail
    have hxw := (Ext.alloc w6 (.cells #[.string lfB.name, .string lfB.key, .int .i64 lfB.kind, .int .u64 lfB.num, .string lfB.text, .slice Kb lfB.kids.length kb] 54)).trans (Ext.alloc _ (.cells #[.string ⟨#[97]⟩, .string ⟨#[]⟩] 65))
    have kB := Hd.mk ((Blk.new w6 #[.string lfB.name, .string lfB.key, .int .i64 lfB.kind, .int .u64 lfB.num, .string lfB.text, .slice Kb lfB.kids.length kb] 54).alloc (.cells #[.string ⟨#[97]⟩, .string ⟨#[]⟩] 65))
    have kW := Blk.new2 w6 (.cells #[.string lfB.name, .string lfB.key, .int .i64 lfB.kind, .int .u64 lfB.num, .string lfB.text, .slice Kb lfB.kids.length kb] 54) #[.string ⟨#[97]⟩, .string ⟨#[]⟩] 65
    replace kx := Hd.mk (kx.out.trans hxw)
    replace kN := Hd.mk (kN.out.ext hxw)
    replace hrn := Hd.mk (hrn.out.ext hxw)
    replace kM := Hd.mk (kM.out.ext hxw)
    replace hrm := Hd.mk (hrm.out.ext hxw)
    replace kO := Hd.mk (kO.out.ext hxw)
    replace hro := Hd.mk (hro.out.ext hxw)
    clear hxw gO
    generalize w6.heap.size = pB at *
    generalize (w6.alloc _).alloc _ = W7 at *
    have hc := tree_get o9 [stepT lfA] (fun _ => True) (fun _ => True) W7 _ (some ⟨pB + 1, 0, none⟩) 1 hro.out (way1 kW)
    rw [get9a] at hc
    refine Calls.mono hc ?_
    rintro e w7 ⟨v9, rfl, hx, hres⟩
    have hv9 : v9 = .tuple #[.agg #[.string ⟨#[]⟩, .string ⟨#[]⟩, .int .i64 0, .int .u64 0, .string ⟨#[]⟩, .slice none 0 0], .bool false] := by
      rcases hres with ⟨_, h9⟩ | ⟨u9, c6, hu9, _⟩
      · exact h9
      · cases hu9
    subst hv9
    clear hres
    clear hc kW
    replace kx := Hd.mk (kx.out.trans hx)
    replace kN := Hd.mk (kN.out.ext hx)
    replace hrn := Hd.mk (hrn.out.ext hx)
    replace kM := Hd.mk (kM.out.ext hx)
    replace hrm := Hd.mk (hrm.out.ext hx)
    replace kO := Hd.mk (kO.out.ext hx)
    replace kB := Hd.mk (kB.out.ext hx)
    clear hx hro
    have hxw := Hd.mk (Ext.alloc w7 (.cells #[.string ⟨#[]⟩, .string ⟨#[]⟩, .int .i64 0, .int .u64 0, .string ⟨#[]⟩, .slice none 0 0] 54))
    replace kx := Hd.mk (kx.out.trans hxw.out)
    replace kN := Hd.mk (kN.out.ext hxw.out)
    replace hrn := Hd.mk (hrn.out.ext hxw.out)
    replace kM := Hd.mk (kM.out.ext hxw.out)
    replace hrm := Hd.mk (hrm.out.ext hxw.out)
    replace kO := Hd.mk (kO.out.ext hxw.out)
    replace kB := Hd.mk (kB.out.ext hxw.out)
    have q1 : o9.kids.length = 1 := rfl
    have q5 : lfB.num = 5 := rfl
    have gO := kO.out.cell
    have gB := kB.out.cell
    have gM := kM.out.cell
    rw [q1] at gO
    rw [q5] at gB
    clear q1 q5 kO kB
    simp only [show o9.kids.length = 1 from rfl]
    go_wp2_with fail
    refine Calls.mono (tree_size 3 m9 (fun _ => True) _ _ (by rw [size9]; omega) (by rw [size9]; omega) hrm.out) ?_
    rintro e x1 ⟨rfl, hx⟩
    replace kx := Hd.mk (kx.out.trans hx)
    replace kN := Hd.mk (kN.out.ext hx)
    replace hrn := Hd.mk (hrn.out.ext hx)
    replace kM := Hd.mk (kM.out.ext hx)
    replace hrm := Hd.mk (hrm.out.ext hx)
    clear hx
    clear gO gB gM
    have hq3 : (m9.size : Int) = 3 := rfl
    have gM := kM.out.cell
    have gN := kN.out.cell
    go_wp2_with fail
    clear hq3
    have hcr := tree_right m9.deep m9 (fun _ => True) _ _ (Nat.le_refl _) hrm.out
    rw [m9_right] at hcr
    refine Calls.mono (hcr) ?_
    rintro e x2 ⟨rfl, hx⟩
    replace kx := Hd.mk (kx.out.trans hx)
    replace kN := Hd.mk (kN.out.ext hx)
    replace hrn := Hd.mk (hrn.out.ext hx)
    replace kM := Hd.mk (kM.out.ext hx)
    replace hrm := Hd.mk (hrm.out.ext hx)
    clear hx
    clear hcr gM gN
    have gM := kM.out.cell
    have gN := kN.out.cell
    go_wp2_with fail
    refine Calls.mono (law_leaf ⟨#[97]⟩ _) ?_
    rintro e x3 ⟨rfl, hx⟩
    replace kx := Hd.mk (kx.out.trans hx)
    replace kN := Hd.mk (kN.out.ext hx)
    replace hrn := Hd.mk (hrn.out.ext hx)
    replace kM := Hd.mk (kM.out.ext hx)
    replace hrm := Hd.mk (hrm.out.ext hx)
    clear hx
    clear gM gN
    have gM := kM.out.cell
    have gN := kN.out.cell
    go_wp2_with fail
    refine Calls.mono (law_leaf ⟨#[98]⟩ _) ?_
    rintro e x4 ⟨rfl, hx⟩
    replace kx := Hd.mk (kx.out.trans hx)
    replace kN := Hd.mk (kN.out.ext hx)
    replace hrn := Hd.mk (hrn.out.ext hx)
    replace kM := Hd.mk (kM.out.ext hx)
    replace hrm := Hd.mk (hrm.out.ext hx)
    clear hx
    clear gM gN
    have gM := kM.out.cell
    have gN := kN.out.cell
    go_wp2_with fail
    have hcl := Hd.mk (fun W => tree_less lfA lfB none none 0 0 0 0 W)
    rw [a_lt_b] at hcl
    simp only [cT, lfA, lfB, T.name, T.key, T.kind, T.num, T.text] at hcl
    refine Calls.mono (hcl.out _) ?_
    rintro e x5 ⟨rfl, hx⟩
    replace kx := Hd.mk (kx.out.trans hx)
    replace kN := Hd.mk (kN.out.ext hx)
    replace hrn := Hd.mk (hrn.out.ext hx)
    replace kM := Hd.mk (kM.out.ext hx)
    replace hrm := Hd.mk (hrm.out.ext hx)
    clear hx
    clear hcl gM gN
    have gM := kM.out.cell
    have gN := kN.out.cell
    go_wp2_with fail
    refine Calls.mono (law_leaf ⟨#[97]⟩ _) ?_
    rintro e x6 ⟨rfl, hx⟩
    replace kx := Hd.mk (kx.out.trans hx)
    replace kN := Hd.mk (kN.out.ext hx)
    replace hrn := Hd.mk (hrn.out.ext hx)
    replace kM := Hd.mk (kM.out.ext hx)
    replace hrm := Hd.mk (hrm.out.ext hx)
    clear hx
    clear gM gN
    have gM := kM.out.cell
    have gN := kN.out.cell
    go_wp2_with fail
    refine Calls.mono (law_leaf ⟨#[97]⟩ _) ?_
    rintro e x7 ⟨rfl, hx⟩
    replace kx := Hd.mk (kx.out.trans hx)
    replace kN := Hd.mk (kN.out.ext hx)
    replace hrn := Hd.mk (hrn.out.ext hx)
    replace kM := Hd.mk (kM.out.ext hx)
    replace hrm := Hd.mk (hrm.out.ext hx)
    clear hx
    clear gM gN
    have gM := kM.out.cell
    have gN := kN.out.cell
    go_wp2_with fail
    have hcl := Hd.mk (fun W => tree_less lfA lfA none none 0 0 0 0 W)
    rw [a_lt_a] at hcl
    simp only [cT, lfA, T.name, T.key, T.kind, T.num, T.text] at hcl
    refine Calls.mono (hcl.out _) ?_
    rintro e x8 ⟨rfl, hx⟩
    replace kx := Hd.mk (kx.out.trans hx)
    replace kN := Hd.mk (kN.out.ext hx)
    replace hrn := Hd.mk (hrn.out.ext hx)
    replace kM := Hd.mk (kM.out.ext hx)
    replace hrm := Hd.mk (hrm.out.ext hx)
    clear hx
    clear hcl gM gN
    have gM := kM.out.cell
    have gN := kN.out.cell
    go_wp2_with fail
    have hcs := tree_same n9.deep n9 n9 (fun _ => True) _ _ _ (Nat.le_refl _) hrn.out hrn.out
    rw [same9.1] at hcs
    refine Calls.mono (hcs) ?_
    rintro e x9 ⟨rfl, hx⟩
    replace kx := Hd.mk (kx.out.trans hx)
    replace kN := Hd.mk (kN.out.ext hx)
    replace hrn := Hd.mk (hrn.out.ext hx)
    replace kM := Hd.mk (kM.out.ext hx)
    replace hrm := Hd.mk (hrm.out.ext hx)
    clear hx
    clear hcs gM gN
    have gM := kM.out.cell
    have gN := kN.out.cell
    go_wp2_with fail
    have hcs := tree_same n9.deep n9 m9 (fun _ => True) _ _ _ (Nat.le_refl _) hrn.out hrm.out
    rw [same9.2] at hcs
    refine Calls.mono (hcs) ?_
    rintro e x10 ⟨rfl, hx⟩
    replace kx := Hd.mk (kx.out.trans hx)
    replace kN := Hd.mk (kN.out.ext hx)
    replace hrn := Hd.mk (hrn.out.ext hx)
    replace kM := Hd.mk (kM.out.ext hx)
    replace hrm := Hd.mk (hrm.out.ext hx)
    clear hx
    clear hcs gM gN
    have gM := kM.out.cell
    have gN := kN.out.cell
    go_wp2_with fail
    refine Calls.mono (tree_sorted 20 (by omega) (fun h => absurd h (by omega)) m9.deep m9 (fun _ => True) _ _ (Nat.le_refl _) (by rw [size9]; omega) hrm.out) ?_
    rintro e x11 ⟨_, rfl, c11, rfl, hr11, hx⟩
    obtain ⟨Kz, kz, rfl, _⟩ := hr11.row
    simp only [cT, sort9]
    replace kx := Hd.mk (kx.out.trans hx)
    clear hx hr11 gM gN
    have hfk := run_kids
    go_wp2_with fail
    go_ret
    exact ⟨rfl, kx.out⟩
end Go.Proofs.Ytgkgedjmnbjalaa
set_option linter.unusedSimpArgs false
namespace Go.Proofs.Ytgkgedjmnbjalaa
open Go.RowKit Go.Sort
def TwoPost (t : T) (u : Value) (w w' : World) (v : Value) : Prop := ∃ c : List Value, v = .tuple #[.agg c.toArray, u] ∧ RT (fun _ => True) w' t c ∧ Ext w w'
theorem get_two {o : Option T} {w : World} : ∀ e w', Ret (GetPost o w) e w' → Ret (TwoPost (o.getD zeroT) (.bool o.isSome) w) e w' := fun e w' ⟨v, h1, hx, h⟩ => by
  rcases h with ⟨rfl, rfl⟩ | ⟨u, c, rfl, rfl, ho⟩
  · exact ⟨_, h1, _, rfl, rt_zero _ _, hx⟩
  · exact ⟨_, h1, c, rfl, ho.rt.mono fun _ _ _ => trivial, hx⟩
theorem rget_two {S : Nat → Prop} {o : Option T} {w : World} : ∀ e w', Ret (RGPost S o w) e w' → Ret (TwoPost (o.getD zeroT) (.bool o.isSome) w) e w' := fun e w' ⟨v, h1, hx, h⟩ => by
  rcases h with ⟨rfl, rfl⟩ | ⟨u, c, rfl, rfl, ho⟩
  · exact ⟨_, h1, _, rfl, rt_zero _ _, hx⟩
  · exact ⟨_, h1, c, rfl, ho.mono fun _ _ _ => trivial, hx⟩
theorem chg_two {r : T × Int} {w : World} : ∀ e w', Ret (ChgPost r w) e w' → Ret (TwoPost r.1 (.int .i64 r.2) w) e w' := fun e w' ⟨v, h1, c, h2, ho, hx⟩ => ⟨v, h1, c, h2, ho.rt.mono fun _ _ _ => trivial, hx⟩
theorem rchg_two {S : Nat → Prop} {r : T × Int} {w : World} : ∀ e w', Ret (RChg S r w) e w' → Ret (TwoPost r.1 (.int .i64 r.2) w) e w' := fun e w' ⟨v, h1, c, h2, ho, hx⟩ => ⟨v, h1, c, h2, ho.mono fun _ _ _ => trivial, hx⟩
set_option maxRecDepth 100000 in
set_option maxHeartbeats 4000000 in
theorem changes09_walk (n x : T) (way : List Step) (w : World) (c cx : List Value) (A : Option Addr) (ac : Nat) (h : RT (fun _ => True) w n c) (hw : WRow (fun _ => True) w A way ac) (hx : RT (fun _ => True) w x cx) (hsn : n.size ≤ 1048576) (hsx : x.size ≤ 1048576) :
    Calls Try.prog 16 #[.agg c.toArray, .slice A way.length ac, .agg cx.toArray] w fun e w' => e = .returned (.bool true) ∧ Ext w w' := by
  obtain ⟨Kn, kn, rfl, _⟩ := h.row
  obtain ⟨Kx, k0, rfl, _⟩ := hx.row
  have hwl := hw.len
  have rn := Hd.mk h
  have rx := Hd.mk hx
  have rw' := Hd.mk hw
  replace hsn := Hd.mk hsn
  replace hsx := Hd.mk hsx
  clear h hx hw
  simp only [cT] at rn rx ⊢
  go_enter Try.func16, Try.ntmps16
  go_wp2_with fail
  have hxA := (Ext.alloc w (.cells #[.string n.name, .string n.key, .int .i64 n.kind, .int .u64 n.num, .string n.text, .slice Kn n.kids.length kn] 54)).trans (Ext.alloc _ (.cells #[.string x.name, .string x.key, .int .i64 x.kind, .int .u64 x.num, .string x.text, .slice Kx x.kids.length k0] 54))
  have kx := Hd.mk hxA
  have kN := Hd.mk ((Blk.new w #[.string n.name, .string n.key, .int .i64 n.kind, .int .u64 n.num, .string n.text, .slice Kn n.kids.length kn] 54).alloc (.cells #[.string x.name, .string x.key, .int .i64 x.kind, .int .u64 x.num, .string x.text, .slice Kx x.kids.length k0] 54))
  have kX := Hd.mk (Blk.new2 w (.cells #[.string n.name, .string n.key, .int .i64 n.kind, .int .u64 n.num, .string n.text, .slice Kn n.kids.length kn] 54) #[.string x.name, .string x.key, .int .i64 x.kind, .int .u64 x.num, .string x.text, .slice Kx x.kids.length k0] 54)
  replace rn := Hd.mk (rn.out.ext hxA)
  replace rx := Hd.mk (rx.out.ext hxA)
  replace rw' := Hd.mk (rw'.out.ext hxA)
  clear hxA
  generalize w.heap.size = pN at *
  generalize (w.alloc _).alloc _ = W at *
  refine Calls.mono (awake09 _) ?_
  rintro e w1 ⟨rfl, hx⟩
  replace kx := Hd.mk (kx.out.trans hx)
  replace kN := Hd.mk (kN.out.ext hx)
  replace kX := Hd.mk (kX.out.ext hx)
  replace rn := Hd.mk (rn.out.ext hx)
  replace rx := Hd.mk (rx.out.ext hx)
  replace rw' := Hd.mk (rw'.out.ext hx)
  clear hx
  have gkN := kN.out.cell
  have gkX := kX.out.cell
  go_wp2_with fail
  clear gkN gkX
  refine Calls.mono (law_small09 n (fun _ => True) _ _ hsn.out rn.out) ?_
  rintro e w2 ⟨rfl, hx⟩
  replace kx := Hd.mk (kx.out.trans hx)
  replace kN := Hd.mk (kN.out.ext hx)
  replace kX := Hd.mk (kX.out.ext hx)
  replace rn := Hd.mk (rn.out.ext hx)
  replace rx := Hd.mk (rx.out.ext hx)
  replace rw' := Hd.mk (rw'.out.ext hx)
  clear hx
  have gkN := kN.out.cell
  have gkX := kX.out.cell
  go_wp2_with fail
  clear gkN gkX
  refine Calls.mono (law_small09 x (fun _ => True) _ _ hsx.out rx.out) ?_
  rintro e w3 ⟨rfl, hx⟩
  replace kx := Hd.mk (kx.out.trans hx)
  replace kN := Hd.mk (kN.out.ext hx)
  replace kX := Hd.mk (kX.out.ext hx)
  replace rn := Hd.mk (rn.out.ext hx)
  replace rx := Hd.mk (rx.out.ext hx)
  replace rw' := Hd.mk (rw'.out.ext hx)
  clear hx
  have hb1 : decide (n.size ≤ 300) = decide (n.size ≤ 300) := rfl
  clear hb1
  by_cases hs1 : ¬ n.size ≤ 300
  · have hb1 : decide (n.size ≤ 300) = false := decide_eq_false hs1
    rw [hb1]
    clear hs1
    have gkN := kN.out.cell
    go_wp2_with fail
    go_ret
    exact ⟨rfl, kx.out⟩
  replace hs1 := Decidable.of_not_not hs1
  rw [decide_eq_true hs1]
  by_cases hs2 : ¬ x.size ≤ 300
  · have hb1 : decide (x.size ≤ 300) = false := decide_eq_false hs2
    rw [hb1]
    clear hs2
    have gkN := kN.out.cell
    go_wp2_with fail
    go_ret
    exact ⟨rfl, kx.out⟩
  replace hs2 := Decidable.of_not_not hs2
  rw [decide_eq_true hs2]
  by_cases hs3 : 20 < way.length
  · have hs3i : (20 : Int) < (way.length : Int) := by omega
    have gkN := kN.out.cell
    go_wp2_with fail
    go_ret
    exact ⟨rfl, kx.out⟩
  have hs3i : ¬ (20 : Int) < (way.length : Int) := by omega
  replace hs1 := Hd.mk hs1
  replace hs2 := Hd.mk hs2
  clear hs3
  have gkN := kN.out.cell
  go_wp2_with fail
  clear gkN
  refine Calls.mono (ref_right n.deep n (fun _ => True) _ _ (Nat.le_refl _) rn.out) ?_
  rintro e w4 ⟨rfl, hx⟩
  replace kx := Hd.mk (kx.out.trans hx)
  replace kN := Hd.mk (kN.out.ext hx)
  replace kX := Hd.mk (kX.out.ext hx)
  replace rn := Hd.mk (rn.out.ext hx)
  replace rx := Hd.mk (rx.out.ext hx)
  replace rw' := Hd.mk (rw'.out.ext hx)
  clear hx
  cases hri : rightT n with
  | false =>
    have gkN := kN.out.cell
    go_wp2_with fail
    go_ret
    exact ⟨rfl, kx.out⟩
  | true =>
  replace hri := Hd.mk hri
  have gkN := kN.out.cell
  go_wp2_with fail
  clear gkN
  refine Calls.mono (Calls.mono (tree_get n way (fun _ => True) (fun _ => True) _ _ A ac rn.out rw'.out) get_two) ?_
  rintro e w5 ⟨_, rfl, c9, rfl, hr9, hx⟩
  obtain ⟨K1, k1c, rfl, _⟩ := hr9.row
  simp only [cT] at hr9 ⊢
  have hxA := hx.trans (Ext.alloc w5 (.cells #[.string ((getT n way).getD zeroT).name, .string ((getT n way).getD zeroT).key, .int .i64 ((getT n way).getD zeroT).kind, .int .u64 ((getT n way).getD zeroT).num, .string ((getT n way).getD zeroT).text, .slice K1 ((getT n way).getD zeroT).kids.length k1c] 54))
  replace kx := Hd.mk (kx.out.trans hxA)
  replace kN := Hd.mk (kN.out.ext hxA)
  replace kX := Hd.mk (kX.out.ext hxA)
  replace rn := Hd.mk (rn.out.ext hxA)
  replace rx := Hd.mk (rx.out.ext hxA)
  replace rw' := Hd.mk (rw'.out.ext hxA)
  have k1 := Hd.mk (Blk.new w5 #[.string ((getT n way).getD zeroT).name, .string ((getT n way).getD zeroT).key, .int .i64 ((getT n way).getD zeroT).kind, .int .u64 ((getT n way).getD zeroT).num, .string ((getT n way).getD zeroT).text, .slice K1 ((getT n way).getD zeroT).kids.length k1c] 54)
  replace hr9 := Hd.mk (hr9.ext (Ext.alloc w5 (.cells #[.string ((getT n way).getD zeroT).name, .string ((getT n way).getD zeroT).key, .int .i64 ((getT n way).getD zeroT).kind, .int .u64 ((getT n way).getD zeroT).num, .string ((getT n way).getD zeroT).text, .slice K1 ((getT n way).getD zeroT).kids.length k1c] 54)))
  clear hx hxA
  have gkN := kN.out.cell
  go_wp2_with fail
  clear gkN
  generalize w5.heap.size = p1 at *
  generalize w5.alloc _ = W5 at *
  have r1 := hr9
  clear hr9
  refine Calls.mono (Calls.mono (ref_get way n (fun _ => True) (fun _ => True) _ _ A ac rn.out rw'.out) rget_two) ?_
  rintro e w6 ⟨_, rfl, c9, rfl, hr9, hx⟩
  obtain ⟨K2, k2c, rfl, _⟩ := hr9.row
  simp only [cT] at hr9 ⊢
  have hxA := hx.trans (Ext.alloc w6 (.cells #[.string ((getT n way).getD zeroT).name, .string ((getT n way).getD zeroT).key, .int .i64 ((getT n way).getD zeroT).kind, .int .u64 ((getT n way).getD zeroT).num, .string ((getT n way).getD zeroT).text, .slice K2 ((getT n way).getD zeroT).kids.length k2c] 54))
  replace kx := Hd.mk (kx.out.trans hxA)
  replace kN := Hd.mk (kN.out.ext hxA)
  replace kX := Hd.mk (kX.out.ext hxA)
  replace rn := Hd.mk (rn.out.ext hxA)
  replace rx := Hd.mk (rx.out.ext hxA)
  replace rw' := Hd.mk (rw'.out.ext hxA)
  replace k1 := Hd.mk (k1.out.ext hxA)
  replace r1 := Hd.mk (r1.out.ext hxA)
  have k2 := Hd.mk (Blk.new w6 #[.string ((getT n way).getD zeroT).name, .string ((getT n way).getD zeroT).key, .int .i64 ((getT n way).getD zeroT).kind, .int .u64 ((getT n way).getD zeroT).num, .string ((getT n way).getD zeroT).text, .slice K2 ((getT n way).getD zeroT).kids.length k2c] 54)
  replace hr9 := Hd.mk (hr9.ext (Ext.alloc w6 (.cells #[.string ((getT n way).getD zeroT).name, .string ((getT n way).getD zeroT).key, .int .i64 ((getT n way).getD zeroT).kind, .int .u64 ((getT n way).getD zeroT).num, .string ((getT n way).getD zeroT).text, .slice K2 ((getT n way).getD zeroT).kids.length k2c] 54)))
  clear hx hxA
  have gkN := kN.out.cell
  have gkX := kX.out.cell
  go_wp2_with fail
  clear gkN gkX
  generalize w6.heap.size = p2 at *
  generalize w6.alloc _ = W6 at *
  have r2 := hr9
  clear hr9
  refine Calls.mono (Calls.mono (tree_set n x way (fun _ => True) (fun _ => True) (fun _ => True) _ _ _ A ac rn.out rx.out rw'.out hri.out (by have := hs1.out; have := hs2.out; omega)) chg_two) ?_
  rintro e w7 ⟨_, rfl, c9, rfl, hr9, hx⟩
  obtain ⟨K3, k3c, rfl, _⟩ := hr9.row
  simp only [cT] at hr9 ⊢
  have hxA := hx.trans (Ext.alloc w7 (.cells #[.string (setR n way x).1.name, .string (setR n way x).1.key, .int .i64 (setR n way x).1.kind, .int .u64 (setR n way x).1.num, .string (setR n way x).1.text, .slice K3 (setR n way x).1.kids.length k3c] 54))
  replace kx := Hd.mk (kx.out.trans hxA)
  replace kN := Hd.mk (kN.out.ext hxA)
  replace kX := Hd.mk (kX.out.ext hxA)
  replace rn := Hd.mk (rn.out.ext hxA)
  replace rx := Hd.mk (rx.out.ext hxA)
  replace rw' := Hd.mk (rw'.out.ext hxA)
  replace k1 := Hd.mk (k1.out.ext hxA)
  replace r1 := Hd.mk (r1.out.ext hxA)
  replace k2 := Hd.mk (k2.out.ext hxA)
  replace r2 := Hd.mk (r2.out.ext hxA)
  have k3 := Hd.mk (Blk.new w7 #[.string (setR n way x).1.name, .string (setR n way x).1.key, .int .i64 (setR n way x).1.kind, .int .u64 (setR n way x).1.num, .string (setR n way x).1.text, .slice K3 (setR n way x).1.kids.length k3c] 54)
  replace hr9 := Hd.mk (hr9.ext (Ext.alloc w7 (.cells #[.string (setR n way x).1.name, .string (setR n way x).1.key, .int .i64 (setR n way x).1.kind, .int .u64 (setR n way x).1.num, .string (setR n way x).1.text, .slice K3 (setR n way x).1.kids.length k3c] 54)))
  clear hx hxA
  have gkN := kN.out.cell
  have gkX := kX.out.cell
  go_wp2_with fail
  clear gkN gkX
  generalize w7.heap.size = p3 at *
  generalize w7.alloc _ = W7 at *
  have r3 := hr9
  clear hr9
  refine Calls.mono (Calls.mono (refSet n x way (fun _ => True) (fun _ => True) _ _ _ A ac rn.out rx.out rw'.out (by have := hs1.out; have := hs2.out; omega)) rchg_two) ?_
  rintro e w8 ⟨_, rfl, c9, rfl, hr9, hx⟩
  obtain ⟨K4, k4c, rfl, _⟩ := hr9.row
  simp only [cT] at hr9 ⊢
  have hxA := hx.trans (Ext.alloc w8 (.cells #[.string (setR n way x).1.name, .string (setR n way x).1.key, .int .i64 (setR n way x).1.kind, .int .u64 (setR n way x).1.num, .string (setR n way x).1.text, .slice K4 (setR n way x).1.kids.length k4c] 54))
  replace kx := Hd.mk (kx.out.trans hxA)
  replace kN := Hd.mk (kN.out.ext hxA)
  replace kX := Hd.mk (kX.out.ext hxA)
  replace rn := Hd.mk (rn.out.ext hxA)
  replace rx := Hd.mk (rx.out.ext hxA)
  replace rw' := Hd.mk (rw'.out.ext hxA)
  replace k1 := Hd.mk (k1.out.ext hxA)
  replace r1 := Hd.mk (r1.out.ext hxA)
  replace k2 := Hd.mk (k2.out.ext hxA)
  replace r2 := Hd.mk (r2.out.ext hxA)
  replace k3 := Hd.mk (k3.out.ext hxA)
  replace r3 := Hd.mk (r3.out.ext hxA)
  have k4 := Hd.mk (Blk.new w8 #[.string (setR n way x).1.name, .string (setR n way x).1.key, .int .i64 (setR n way x).1.kind, .int .u64 (setR n way x).1.num, .string (setR n way x).1.text, .slice K4 (setR n way x).1.kids.length k4c] 54)
  replace hr9 := Hd.mk (hr9.ext (Ext.alloc w8 (.cells #[.string (setR n way x).1.name, .string (setR n way x).1.key, .int .i64 (setR n way x).1.kind, .int .u64 (setR n way x).1.num, .string (setR n way x).1.text, .slice K4 (setR n way x).1.kids.length k4c] 54)))
  clear hx hxA
  have gkN := kN.out.cell
  go_wp2_with fail
  clear gkN
  generalize w8.heap.size = p4 at *
  generalize w8.alloc _ = W8 at *
  have r4 := hr9
  clear hr9
  refine Calls.mono (Calls.mono (tree_cut n way (fun _ => True) (fun _ => True) _ _ A ac rn.out rw'.out (by have := hs1.out; have := hs2.out; omega)) chg_two) ?_
  rintro e w9 ⟨_, rfl, c9, rfl, hr9, hx⟩
  obtain ⟨K5, k5c, rfl, _⟩ := hr9.row
  simp only [cT] at hr9 ⊢
  have hxA := hx.trans (Ext.alloc w9 (.cells #[.string (cutR n way).1.name, .string (cutR n way).1.key, .int .i64 (cutR n way).1.kind, .int .u64 (cutR n way).1.num, .string (cutR n way).1.text, .slice K5 (cutR n way).1.kids.length k5c] 54))
  replace kx := Hd.mk (kx.out.trans hxA)
  replace kN := Hd.mk (kN.out.ext hxA)
  replace kX := Hd.mk (kX.out.ext hxA)
  replace rn := Hd.mk (rn.out.ext hxA)
  replace rx := Hd.mk (rx.out.ext hxA)
  replace rw' := Hd.mk (rw'.out.ext hxA)
  replace k1 := Hd.mk (k1.out.ext hxA)
  replace r1 := Hd.mk (r1.out.ext hxA)
  replace k2 := Hd.mk (k2.out.ext hxA)
  replace r2 := Hd.mk (r2.out.ext hxA)
  replace k3 := Hd.mk (k3.out.ext hxA)
  replace r3 := Hd.mk (r3.out.ext hxA)
  replace k4 := Hd.mk (k4.out.ext hxA)
  replace r4 := Hd.mk (r4.out.ext hxA)
  have k5 := Hd.mk (Blk.new w9 #[.string (cutR n way).1.name, .string (cutR n way).1.key, .int .i64 (cutR n way).1.kind, .int .u64 (cutR n way).1.num, .string (cutR n way).1.text, .slice K5 (cutR n way).1.kids.length k5c] 54)
  replace hr9 := Hd.mk (hr9.ext (Ext.alloc w9 (.cells #[.string (cutR n way).1.name, .string (cutR n way).1.key, .int .i64 (cutR n way).1.kind, .int .u64 (cutR n way).1.num, .string (cutR n way).1.text, .slice K5 (cutR n way).1.kids.length k5c] 54)))
  clear hx hxA
  have gkN := kN.out.cell
  go_wp2_with fail
  clear gkN
  generalize w9.heap.size = p5 at *
  generalize w9.alloc _ = W9 at *
  have r5 := hr9
  clear hr9
  refine Calls.mono (Calls.mono (refCut n way (fun _ => True) (fun _ => True) _ _ A ac rn.out rw'.out (by have := hs1.out; have := hs2.out; omega)) rchg_two) ?_
  rintro e w10 ⟨_, rfl, c9, rfl, hr9, hx⟩
  obtain ⟨K6, k6c, rfl, _⟩ := hr9.row
  simp only [cT] at hr9 ⊢
  have hxA := hx.trans (Ext.alloc w10 (.cells #[.string (cutR n way).1.name, .string (cutR n way).1.key, .int .i64 (cutR n way).1.kind, .int .u64 (cutR n way).1.num, .string (cutR n way).1.text, .slice K6 (cutR n way).1.kids.length k6c] 54))
  replace kx := Hd.mk (kx.out.trans hxA)
  replace kN := Hd.mk (kN.out.ext hxA)
  replace kX := Hd.mk (kX.out.ext hxA)
  replace rn := Hd.mk (rn.out.ext hxA)
  replace rx := Hd.mk (rx.out.ext hxA)
  replace rw' := Hd.mk (rw'.out.ext hxA)
  replace k1 := Hd.mk (k1.out.ext hxA)
  replace r1 := Hd.mk (r1.out.ext hxA)
  replace k2 := Hd.mk (k2.out.ext hxA)
  replace r2 := Hd.mk (r2.out.ext hxA)
  replace k3 := Hd.mk (k3.out.ext hxA)
  replace r3 := Hd.mk (r3.out.ext hxA)
  replace k4 := Hd.mk (k4.out.ext hxA)
  replace r4 := Hd.mk (r4.out.ext hxA)
  replace k5 := Hd.mk (k5.out.ext hxA)
  replace r5 := Hd.mk (r5.out.ext hxA)
  have k6 := Hd.mk (Blk.new w10 #[.string (cutR n way).1.name, .string (cutR n way).1.key, .int .i64 (cutR n way).1.kind, .int .u64 (cutR n way).1.num, .string (cutR n way).1.text, .slice K6 (cutR n way).1.kids.length k6c] 54)
  replace hr9 := Hd.mk (hr9.ext (Ext.alloc w10 (.cells #[.string (cutR n way).1.name, .string (cutR n way).1.key, .int .i64 (cutR n way).1.kind, .int .u64 (cutR n way).1.num, .string (cutR n way).1.text, .slice K6 (cutR n way).1.kids.length k6c] 54)))
  clear hx hxA
  have gk1 := k1.out.cell
  have gk2 := k2.out.cell
  go_wp2_with fail
  clear gk1 gk2
  generalize w10.heap.size = p6 at *
  generalize w10.alloc _ = W10 at *
  have r6 := hr9
  clear hr9
  have hsm1 := ref_same _ _ _ (fun _ => True) _ _ _ (Nat.le_refl _) r1.out r2.out
  rw [sameT_rfl] at hsm1
  refine Calls.mono (hsm1) ?_
  rintro e w11 ⟨rfl, hx⟩
  replace kx := Hd.mk (kx.out.trans hx)
  replace kN := Hd.mk (kN.out.ext hx)
  replace kX := Hd.mk (kX.out.ext hx)
  replace rn := Hd.mk (rn.out.ext hx)
  replace rx := Hd.mk (rx.out.ext hx)
  replace rw' := Hd.mk (rw'.out.ext hx)
  replace k1 := Hd.mk (k1.out.ext hx)
  replace r1 := Hd.mk (r1.out.ext hx)
  replace k2 := Hd.mk (k2.out.ext hx)
  replace r2 := Hd.mk (r2.out.ext hx)
  replace k3 := Hd.mk (k3.out.ext hx)
  replace r3 := Hd.mk (r3.out.ext hx)
  replace k4 := Hd.mk (k4.out.ext hx)
  replace r4 := Hd.mk (r4.out.ext hx)
  replace k5 := Hd.mk (k5.out.ext hx)
  replace r5 := Hd.mk (r5.out.ext hx)
  replace k6 := Hd.mk (k6.out.ext hx)
  replace r6 := Hd.mk (r6.out.ext hx)
  clear hx
  have gk3 := k3.out.cell
  have gk4 := k4.out.cell
  go_wp2_with fail
  clear gk3 gk4
  clear hsm1
  have hsm2 := ref_same _ _ _ (fun _ => True) _ _ _ (Nat.le_refl _) r3.out r4.out
  rw [sameT_rfl] at hsm2
  refine Calls.mono (hsm2) ?_
  rintro e w12 ⟨rfl, hx⟩
  replace kx := Hd.mk (kx.out.trans hx)
  replace kN := Hd.mk (kN.out.ext hx)
  replace kX := Hd.mk (kX.out.ext hx)
  replace rn := Hd.mk (rn.out.ext hx)
  replace rx := Hd.mk (rx.out.ext hx)
  replace rw' := Hd.mk (rw'.out.ext hx)
  replace k1 := Hd.mk (k1.out.ext hx)
  replace r1 := Hd.mk (r1.out.ext hx)
  replace k2 := Hd.mk (k2.out.ext hx)
  replace r2 := Hd.mk (r2.out.ext hx)
  replace k3 := Hd.mk (k3.out.ext hx)
  replace r3 := Hd.mk (r3.out.ext hx)
  replace k4 := Hd.mk (k4.out.ext hx)
  replace r4 := Hd.mk (r4.out.ext hx)
  replace k5 := Hd.mk (k5.out.ext hx)
  replace r5 := Hd.mk (r5.out.ext hx)
  replace k6 := Hd.mk (k6.out.ext hx)
  replace r6 := Hd.mk (r6.out.ext hx)
  clear hx
  have gk5 := k5.out.cell
  have gk6 := k6.out.cell
  go_wp2_with fail
  clear gk5 gk6
  clear hsm2
  have hsm3 := ref_same _ _ _ (fun _ => True) _ _ _ (Nat.le_refl _) r5.out r6.out
  rw [sameT_rfl] at hsm3
  refine Calls.mono (hsm3) ?_
  rintro e w13 ⟨rfl, hx⟩
  replace kx := Hd.mk (kx.out.trans hx)
  replace kN := Hd.mk (kN.out.ext hx)
  replace kX := Hd.mk (kX.out.ext hx)
  replace rn := Hd.mk (rn.out.ext hx)
  replace rx := Hd.mk (rx.out.ext hx)
  replace rw' := Hd.mk (rw'.out.ext hx)
  replace k1 := Hd.mk (k1.out.ext hx)
  replace r1 := Hd.mk (r1.out.ext hx)
  replace k2 := Hd.mk (k2.out.ext hx)
  replace r2 := Hd.mk (r2.out.ext hx)
  replace k3 := Hd.mk (k3.out.ext hx)
  replace r3 := Hd.mk (r3.out.ext hx)
  replace k4 := Hd.mk (k4.out.ext hx)
  replace r4 := Hd.mk (r4.out.ext hx)
  replace k5 := Hd.mk (k5.out.ext hx)
  replace r5 := Hd.mk (r5.out.ext hx)
  replace k6 := Hd.mk (k6.out.ext hx)
  replace r6 := Hd.mk (r6.out.ext hx)
  clear hx
  go_wp2_with fail
  clear hsm3
  go_ret
  exact ⟨rfl, kx.out⟩
end Go.Proofs.Ytgkgedjmnbjalaa
set_option linter.unusedSimpArgs false
namespace Go.Proofs.Ytgkgedjmnbjalaa
open Go.RowKit Go.Sort
theorem getT_size : ∀ (way : List Step) (n u : T), getT n way = some u → u.size ≤ n.size
  | [], n, u, h => by cases h; exact Nat.le_refl _
  | s :: r, n, u, h => by
    rw [getT_cons] at h
    cases hk : kid n.kids s with
    | none => rw [hk] at h; cases h
    | some k =>
      rw [hk] at h
      have h1 := getT_size r k u h
      obtain ⟨pre, suf, e, h2, h3⟩ := kid_some hk
      have h4 : k ∈ n.kids := by rw [e]; simp
      obtain ⟨i, hi⟩ := List.getElem?_of_mem h4
      have := kid_size hi
      omega
set_option maxRecDepth 100000 in
set_option maxHeartbeats 4000000 in
theorem back09_walk (n x : T) (way : List Step) (w : World) (c cx : List Value) (A : Option Addr) (ac : Nat) (h : RT (fun _ => True) w n c) (hw : WRow (fun _ => True) w A way ac) (hx : RT (fun _ => True) w x cx) (hsn : n.size ≤ 1048576) (hsx : x.size ≤ 1048576) :
    Calls Try.prog 17 #[.agg c.toArray, .slice A way.length ac, .agg cx.toArray] w fun e w' => e = .returned (.bool true) ∧ Ext w w' := by
  obtain ⟨Kn, kn, rfl, _⟩ := h.row
  obtain ⟨Kx, k0, rfl, _⟩ := hx.row
  have hwl := hw.len
  have rn := Hd.mk h
  have rx := Hd.mk hx
  have rw' := Hd.mk hw
  replace hsn := Hd.mk hsn
  replace hsx := Hd.mk hsx
  clear h hx hw
  simp only [cT] at rn rx ⊢
  go_enter Try.func17, Try.ntmps17
  go_wp2_with fail
  have hxA := (Ext.alloc w (.cells #[.string n.name, .string n.key, .int .i64 n.kind, .int .u64 n.num, .string n.text, .slice Kn n.kids.length kn] 54)).trans (Ext.alloc _ (.cells #[.string x.name, .string x.key, .int .i64 x.kind, .int .u64 x.num, .string x.text, .slice Kx x.kids.length k0] 54))
  have kx := Hd.mk hxA
  have kN := Hd.mk ((Blk.new w #[.string n.name, .string n.key, .int .i64 n.kind, .int .u64 n.num, .string n.text, .slice Kn n.kids.length kn] 54).alloc (.cells #[.string x.name, .string x.key, .int .i64 x.kind, .int .u64 x.num, .string x.text, .slice Kx x.kids.length k0] 54))
  have kX := Hd.mk (Blk.new2 w (.cells #[.string n.name, .string n.key, .int .i64 n.kind, .int .u64 n.num, .string n.text, .slice Kn n.kids.length kn] 54) #[.string x.name, .string x.key, .int .i64 x.kind, .int .u64 x.num, .string x.text, .slice Kx x.kids.length k0] 54)
  replace rn := Hd.mk (rn.out.ext hxA)
  replace rx := Hd.mk (rx.out.ext hxA)
  replace rw' := Hd.mk (rw'.out.ext hxA)
  clear hxA
  generalize w.heap.size = pN at *
  generalize (w.alloc _).alloc _ = W at *
  refine Calls.mono (awake09 _) ?_
  rintro e w1 ⟨rfl, hx⟩
  replace kx := Hd.mk (kx.out.trans hx)
  replace kN := Hd.mk (kN.out.ext hx)
  replace kX := Hd.mk (kX.out.ext hx)
  replace rn := Hd.mk (rn.out.ext hx)
  replace rx := Hd.mk (rx.out.ext hx)
  replace rw' := Hd.mk (rw'.out.ext hx)
  clear hx
  have gkN := kN.out.cell
  have gkX := kX.out.cell
  go_wp2_with fail
  clear gkN gkX
  refine Calls.mono (law_small09 n (fun _ => True) _ _ hsn.out rn.out) ?_
  rintro e w2 ⟨rfl, hx⟩
  replace kx := Hd.mk (kx.out.trans hx)
  replace kN := Hd.mk (kN.out.ext hx)
  replace kX := Hd.mk (kX.out.ext hx)
  replace rn := Hd.mk (rn.out.ext hx)
  replace rx := Hd.mk (rx.out.ext hx)
  replace rw' := Hd.mk (rw'.out.ext hx)
  clear hx
  have gkN := kN.out.cell
  have gkX := kX.out.cell
  go_wp2_with fail
  clear gkN gkX
  refine Calls.mono (law_small09 x (fun _ => True) _ _ hsx.out rx.out) ?_
  rintro e w3 ⟨rfl, hx⟩
  replace kx := Hd.mk (kx.out.trans hx)
  replace kN := Hd.mk (kN.out.ext hx)
  replace kX := Hd.mk (kX.out.ext hx)
  replace rn := Hd.mk (rn.out.ext hx)
  replace rx := Hd.mk (rx.out.ext hx)
  replace rw' := Hd.mk (rw'.out.ext hx)
  clear hx
  have hb1 : decide (n.size ≤ 300) = decide (n.size ≤ 300) := rfl
  clear hb1
  by_cases hs1 : ¬ n.size ≤ 300
  · have hb1 : decide (n.size ≤ 300) = false := decide_eq_false hs1
    rw [hb1]
    clear hs1
    have gkN := kN.out.cell
    go_wp2_with fail
    go_ret
    exact ⟨rfl, kx.out⟩
  replace hs1 := Decidable.of_not_not hs1
  rw [decide_eq_true hs1]
  by_cases hs2 : ¬ x.size ≤ 300
  · have hb1 : decide (x.size ≤ 300) = false := decide_eq_false hs2
    rw [hb1]
    clear hs2
    have gkN := kN.out.cell
    go_wp2_with fail
    go_ret
    exact ⟨rfl, kx.out⟩
  replace hs2 := Decidable.of_not_not hs2
  rw [decide_eq_true hs2]
  by_cases hs3 : 20 < way.length
  · have hs3i : (20 : Int) < (way.length : Int) := by omega
    have gkN := kN.out.cell
    go_wp2_with fail
    go_ret
    exact ⟨rfl, kx.out⟩
  have hs3i : ¬ (20 : Int) < (way.length : Int) := by omega
  replace hs1 := Hd.mk hs1
  replace hs2 := Hd.mk hs2
  clear hs3
  have gkN := kN.out.cell
  go_wp2_with fail
  clear gkN
  refine Calls.mono (ref_right n.deep n (fun _ => True) _ _ (Nat.le_refl _) rn.out) ?_
  rintro e w4 ⟨rfl, hx⟩
  replace kx := Hd.mk (kx.out.trans hx)
  replace kN := Hd.mk (kN.out.ext hx)
  replace kX := Hd.mk (kX.out.ext hx)
  replace rn := Hd.mk (rn.out.ext hx)
  replace rx := Hd.mk (rx.out.ext hx)
  replace rw' := Hd.mk (rw'.out.ext hx)
  clear hx
  cases hri : rightT n with
  | false =>
    have gkN := kN.out.cell
    go_wp2_with fail
    go_ret
    exact ⟨rfl, kx.out⟩
  | true =>
  replace hri := Hd.mk hri
  have gkN := kN.out.cell
  have gkX := kX.out.cell
  go_wp2_with fail
  clear gkN gkX
  refine Calls.mono (ref_right x.deep x (fun _ => True) _ _ (Nat.le_refl _) rx.out) ?_
  rintro e w5 ⟨rfl, hx⟩
  replace kx := Hd.mk (kx.out.trans hx)
  replace kN := Hd.mk (kN.out.ext hx)
  replace kX := Hd.mk (kX.out.ext hx)
  replace rn := Hd.mk (rn.out.ext hx)
  replace rx := Hd.mk (rx.out.ext hx)
  replace rw' := Hd.mk (rw'.out.ext hx)
  clear hx
  cases hrx : rightT x with
  | false =>
    have gkN := kN.out.cell
    go_wp2_with fail
    go_ret
    exact ⟨rfl, kx.out⟩
  | true =>
  replace hrx := Hd.mk hrx
  obtain ⟨m, rc, hset⟩ : ∃ m rc, setR n way x = (m, rc) := ⟨_, _, rfl⟩
  have hSet := Hd.mk (fun W c cx (h1 : RT (fun _ => True) W n c) (h2 : RT (fun _ => True) W x cx) (h3 : WRow (fun _ => True) W A way ac) => (show Calls Try.prog 70 _ W (Ret (TwoPost m (.int .i64 rc) W)) from by have h9 := Calls.mono (tree_set n x way (fun _ => True) (fun _ => True) (fun _ => True) W c cx A ac h1 h2 h3 hri.out (by have := hs1.out; have := hs2.out; omega)) chg_two; rw [hset] at h9; exact h9))
  replace hset := Hd.mk hset
  have gkN := kN.out.cell
  go_wp2_with fail
  clear gkN
  refine Calls.mono (Calls.mono (tree_get n way (fun _ => True) (fun _ => True) _ _ A ac rn.out rw'.out) get_two) ?_
  rintro e w6 ⟨_, rfl, c9, rfl, hr9, hx⟩
  obtain ⟨K1, k1c, rfl, _⟩ := hr9.row
  simp only [cT] at hr9 ⊢
  have hxA := hx.trans (Ext.alloc w6 (.cells #[.string ((getT n way).getD zeroT).name, .string ((getT n way).getD zeroT).key, .int .i64 ((getT n way).getD zeroT).kind, .int .u64 ((getT n way).getD zeroT).num, .string ((getT n way).getD zeroT).text, .slice K1 ((getT n way).getD zeroT).kids.length k1c] 54))
  replace kx := Hd.mk (kx.out.trans hxA)
  replace kN := Hd.mk (kN.out.ext hxA)
  replace kX := Hd.mk (kX.out.ext hxA)
  replace rn := Hd.mk (rn.out.ext hxA)
  replace rx := Hd.mk (rx.out.ext hxA)
  replace rw' := Hd.mk (rw'.out.ext hxA)
  have k1 := Hd.mk (Blk.new w6 #[.string ((getT n way).getD zeroT).name, .string ((getT n way).getD zeroT).key, .int .i64 ((getT n way).getD zeroT).kind, .int .u64 ((getT n way).getD zeroT).num, .string ((getT n way).getD zeroT).text, .slice K1 ((getT n way).getD zeroT).kids.length k1c] 54)
  replace hr9 := Hd.mk (hr9.ext (Ext.alloc w6 (.cells #[.string ((getT n way).getD zeroT).name, .string ((getT n way).getD zeroT).key, .int .i64 ((getT n way).getD zeroT).kind, .int .u64 ((getT n way).getD zeroT).num, .string ((getT n way).getD zeroT).text, .slice K1 ((getT n way).getD zeroT).kids.length k1c] 54)))
  clear hx hxA
  have gkN := kN.out.cell
  have gkX := kX.out.cell
  go_wp2_with fail
  clear gkN gkX
  generalize w6.heap.size = p1 at *
  generalize w6.alloc _ = W6 at *
  have r1 := hr9
  clear hr9
  refine Calls.mono (hSet.out _ _ _ rn.out rx.out rw'.out) ?_
  rintro e w7 ⟨_, rfl, c9, rfl, hr9, hx⟩
  obtain ⟨K2, k2c, rfl, _⟩ := hr9.row
  simp only [cT] at hr9 ⊢
  have hxA := hx.trans (Ext.alloc w7 (.cells #[.string m.name, .string m.key, .int .i64 m.kind, .int .u64 m.num, .string m.text, .slice K2 m.kids.length k2c] 54))
  replace kx := Hd.mk (kx.out.trans hxA)
  replace kN := Hd.mk (kN.out.ext hxA)
  replace kX := Hd.mk (kX.out.ext hxA)
  replace rn := Hd.mk (rn.out.ext hxA)
  replace rx := Hd.mk (rx.out.ext hxA)
  replace rw' := Hd.mk (rw'.out.ext hxA)
  replace k1 := Hd.mk (k1.out.ext hxA)
  replace r1 := Hd.mk (r1.out.ext hxA)
  have k2 := Hd.mk (Blk.new w7 #[.string m.name, .string m.key, .int .i64 m.kind, .int .u64 m.num, .string m.text, .slice K2 m.kids.length k2c] 54)
  replace hr9 := Hd.mk (hr9.ext (Ext.alloc w7 (.cells #[.string m.name, .string m.key, .int .i64 m.kind, .int .u64 m.num, .string m.text, .slice K2 m.kids.length k2c] 54)))
  clear hx hxA
  have r2 := hr9
  clear hr9
  by_cases hrc : rc ≠ 0
  · have hrc1 : (rc == 0) = false := by simpa using hrc
    have hrc2 : (rc != 0) = true := by simpa using hrc
    have gk2 := k2.out.cell
    go_wp2_with fail
    go_ret
    exact ⟨rfl, kx.out⟩
  replace hrc := Decidable.of_not_not hrc
  subst hrc
  obtain ⟨q1, kk, q2, q3, q4, q5, q6⟩ := set_back way n x m hri.out hrx.out hset.out
  have q7 := (setR_right way n x m hri.out hrx.out hset.out).1
  have q8 := (cutR_right way m kk q7 q2).1
  have hzm := setR_size way n x m hset.out
  have hG2 := Hd.mk (fun W c (h1 : RT (fun _ => True) W m c) (h3 : WRow (fun _ => True) W A way ac) => (show Calls Try.prog 68 _ W (Ret (TwoPost x (.bool true) W)) from by have h9 := Calls.mono (tree_get m way (fun _ => True) (fun _ => True) W c A ac h1 h3) get_two; rw [q1] at h9; exact h9))
  have hC := Hd.mk (fun W c (h1 : RT (fun _ => True) W m c) (h3 : WRow (fun _ => True) W A way ac) => (show Calls Try.prog 72 _ W (Ret (TwoPost kk (.int .i64 0) W)) from by have h9 := Calls.mono (tree_cut m way (fun _ => True) (fun _ => True) W c A ac h1 h3 (by have := hs1.out; have := hs2.out; omega)) chg_two; rw [q2] at h9; exact h9))
  have hG3 := Hd.mk (fun W c (h1 : RT (fun _ => True) W kk c) (h3 : WRow (fun _ => True) W A way ac) => (show Calls Try.prog 68 _ W (Ret (TwoPost zeroT (.bool false) W)) from by have h9 := Calls.mono (tree_get kk way (fun _ => True) (fun _ => True) W c A ac h1 h3) get_two; rw [q3] at h9; exact h9))
  have hSm := Hd.mk (fun W c d (h1 : RT (fun _ => True) W x c) (h2 : RT (fun _ => True) W x d) => ref_same x.deep x x (fun _ => True) W c d (Nat.le_refl _) h1 h2)
  rw [sameT_rfl] at hSm
  have hSn := Hd.mk (fun W c d (h1 : RT (fun _ => True) W n c) (h2 : RT (fun _ => True) W n d) => ref_same n.deep n n (fun _ => True) W c d (Nat.le_refl _) h1 h2)
  rw [sameT_rfl] at hSn
  have hRm := Hd.mk (fun W c (h1 : RT (fun _ => True) W m c) => tree_right m.deep m (fun _ => True) W c (Nat.le_refl _) h1)
  rw [q7] at hRm
  have hRk := Hd.mk (fun W c (h1 : RT (fun _ => True) W kk c) => tree_right kk.deep kk (fun _ => True) W c (Nat.le_refl _) h1)
  rw [q8] at hRk
  have hZm := Hd.mk (show m.size ≤ 1048576 by have := hs1.out; have := hs2.out; omega)
  have hZk := Hd.mk (show kk.size ≤ 1048576 by have := hs1.out; have := hs2.out; omega)
  have hZx := Hd.mk (show x.size ≤ 1048576 by have := hs2.out; omega)
  replace q4 := Hd.mk q4
  replace q5 := Hd.mk q5
  replace q6 := Hd.mk q6
  replace q8 := Hd.mk q8
  replace hzm := Hd.mk hzm
  clear q1 q2 q3 q7 hSet
  have gk2 := k2.out.cell
  go_wp2_with fail
  generalize w7.heap.size = p2 at *
  generalize w7.alloc _ = W7 at *
  clear gk2
  refine Calls.mono (hG2.out _ _ r2.out rw'.out) ?_
  rintro e w8 ⟨_, rfl, c9, rfl, hr9, hx⟩
  obtain ⟨K3, k3c, rfl, _⟩ := hr9.row
  simp only [cT] at hr9 ⊢
  have hxA := hx.trans (Ext.alloc w8 (.cells #[.string x.name, .string x.key, .int .i64 x.kind, .int .u64 x.num, .string x.text, .slice K3 x.kids.length k3c] 54))
  replace kx := Hd.mk (kx.out.trans hxA)
  replace kN := Hd.mk (kN.out.ext hxA)
  replace kX := Hd.mk (kX.out.ext hxA)
  replace rn := Hd.mk (rn.out.ext hxA)
  replace rx := Hd.mk (rx.out.ext hxA)
  replace rw' := Hd.mk (rw'.out.ext hxA)
  replace k1 := Hd.mk (k1.out.ext hxA)
  replace r1 := Hd.mk (r1.out.ext hxA)
  replace k2 := Hd.mk (k2.out.ext hxA)
  replace r2 := Hd.mk (r2.out.ext hxA)
  have k3 := Hd.mk (Blk.new w8 #[.string x.name, .string x.key, .int .i64 x.kind, .int .u64 x.num, .string x.text, .slice K3 x.kids.length k3c] 54)
  replace hr9 := Hd.mk (hr9.ext (Ext.alloc w8 (.cells #[.string x.name, .string x.key, .int .i64 x.kind, .int .u64 x.num, .string x.text, .slice K3 x.kids.length k3c] 54)))
  clear hx hxA
  have gk3 := k3.out.cell
  have gkX := kX.out.cell
  go_wp2_with fail
  clear gk3 gkX
  generalize w8.heap.size = p3 at *
  generalize w8.alloc _ = W8 at *
  have r3 := hr9
  clear hr9
  refine Calls.mono (hSm.out _ _ _ r3.out rx.out) ?_
  rintro e w9 ⟨rfl, hx⟩
  replace kx := Hd.mk (kx.out.trans hx)
  replace kN := Hd.mk (kN.out.ext hx)
  replace kX := Hd.mk (kX.out.ext hx)
  replace rn := Hd.mk (rn.out.ext hx)
  replace rx := Hd.mk (rx.out.ext hx)
  replace rw' := Hd.mk (rw'.out.ext hx)
  replace k1 := Hd.mk (k1.out.ext hx)
  replace r1 := Hd.mk (r1.out.ext hx)
  replace k2 := Hd.mk (k2.out.ext hx)
  replace r2 := Hd.mk (r2.out.ext hx)
  replace k3 := Hd.mk (k3.out.ext hx)
  replace r3 := Hd.mk (r3.out.ext hx)
  clear hx
  have gk2 := k2.out.cell
  go_wp2_with fail
  clear gk2
  refine Calls.mono (hRm.out _ _ r2.out) ?_
  rintro e w10 ⟨rfl, hx⟩
  replace kx := Hd.mk (kx.out.trans hx)
  replace kN := Hd.mk (kN.out.ext hx)
  replace kX := Hd.mk (kX.out.ext hx)
  replace rn := Hd.mk (rn.out.ext hx)
  replace rx := Hd.mk (rx.out.ext hx)
  replace rw' := Hd.mk (rw'.out.ext hx)
  replace k1 := Hd.mk (k1.out.ext hx)
  replace r1 := Hd.mk (r1.out.ext hx)
  replace k2 := Hd.mk (k2.out.ext hx)
  replace r2 := Hd.mk (r2.out.ext hx)
  replace k3 := Hd.mk (k3.out.ext hx)
  replace r3 := Hd.mk (r3.out.ext hx)
  clear hx
  have gk2 := k2.out.cell
  go_wp2_with fail
  clear gk2
  refine Calls.mono (hC.out _ _ r2.out rw'.out) ?_
  rintro e w11 ⟨_, rfl, c9, rfl, hr9, hx⟩
  obtain ⟨K4, k4c, rfl, _⟩ := hr9.row
  simp only [cT] at hr9 ⊢
  have hxA := hx.trans (Ext.alloc w11 (.cells #[.string kk.name, .string kk.key, .int .i64 kk.kind, .int .u64 kk.num, .string kk.text, .slice K4 kk.kids.length k4c] 54))
  replace kx := Hd.mk (kx.out.trans hxA)
  replace kN := Hd.mk (kN.out.ext hxA)
  replace kX := Hd.mk (kX.out.ext hxA)
  replace rn := Hd.mk (rn.out.ext hxA)
  replace rx := Hd.mk (rx.out.ext hxA)
  replace rw' := Hd.mk (rw'.out.ext hxA)
  replace k1 := Hd.mk (k1.out.ext hxA)
  replace r1 := Hd.mk (r1.out.ext hxA)
  replace k2 := Hd.mk (k2.out.ext hxA)
  replace r2 := Hd.mk (r2.out.ext hxA)
  replace k3 := Hd.mk (k3.out.ext hxA)
  replace r3 := Hd.mk (r3.out.ext hxA)
  have k4 := Hd.mk (Blk.new w11 #[.string kk.name, .string kk.key, .int .i64 kk.kind, .int .u64 kk.num, .string kk.text, .slice K4 kk.kids.length k4c] 54)
  replace hr9 := Hd.mk (hr9.ext (Ext.alloc w11 (.cells #[.string kk.name, .string kk.key, .int .i64 kk.kind, .int .u64 kk.num, .string kk.text, .slice K4 kk.kids.length k4c] 54)))
  clear hx hxA
  have gk4 := k4.out.cell
  go_wp2_with fail
  clear gk4
  generalize w11.heap.size = p4 at *
  generalize w11.alloc _ = W11 at *
  have r4 := hr9
  clear hr9
  refine Calls.mono (hG3.out _ _ r4.out rw'.out) ?_
  rintro e w12 ⟨_, rfl, c9, rfl, hr9, hx⟩
  obtain ⟨K5, k5c, rfl, _⟩ := hr9.row
  simp only [cT] at hr9 ⊢
  have hxA := hx.trans (Ext.alloc w12 (.cells #[.string zeroT.name, .string zeroT.key, .int .i64 zeroT.kind, .int .u64 zeroT.num, .string zeroT.text, .slice K5 zeroT.kids.length k5c] 54))
  replace kx := Hd.mk (kx.out.trans hxA)
  replace kN := Hd.mk (kN.out.ext hxA)
  replace kX := Hd.mk (kX.out.ext hxA)
  replace rn := Hd.mk (rn.out.ext hxA)
  replace rx := Hd.mk (rx.out.ext hxA)
  replace rw' := Hd.mk (rw'.out.ext hxA)
  replace k1 := Hd.mk (k1.out.ext hxA)
  replace r1 := Hd.mk (r1.out.ext hxA)
  replace k2 := Hd.mk (k2.out.ext hxA)
  replace r2 := Hd.mk (r2.out.ext hxA)
  replace k3 := Hd.mk (k3.out.ext hxA)
  replace r3 := Hd.mk (r3.out.ext hxA)
  replace k4 := Hd.mk (k4.out.ext hxA)
  replace r4 := Hd.mk (r4.out.ext hxA)
  have k5 := Hd.mk (Blk.new w12 #[.string zeroT.name, .string zeroT.key, .int .i64 zeroT.kind, .int .u64 zeroT.num, .string zeroT.text, .slice K5 zeroT.kids.length k5c] 54)
  replace hr9 := Hd.mk (hr9.ext (Ext.alloc w12 (.cells #[.string zeroT.name, .string zeroT.key, .int .i64 zeroT.kind, .int .u64 zeroT.num, .string zeroT.text, .slice K5 zeroT.kids.length k5c] 54)))
  clear hx hxA
  go_wp2_with fail
  generalize w12.heap.size = p5 at *
  generalize w12.alloc _ = W12 at *
  clear hr9
  refine Flow.wp_region_flow_l (fun qq => match qq with
    | 96 => SP.eq (.int .i64 0)
    | 97 => SP.eq (.bool false)
    | 98 => SP.eq (.bool false)
    | 99 => SP.eq (.bool false)
    | 100 => SP.eq (.bool false)
    | 101 => SP.eq (.bool false)
    | 102 => SP.eq (.agg #[.string kk.name, .string kk.key, .int .i64 kk.kind, .int .u64 kk.num, .string kk.text, .slice K4 kk.kids.length k4c])
    | 103 => SP.eq (.bool true)
    | 104 => SP.eq (.bool false)
    | 105 => SP.eq (.bool false)
    | 106 => SP.eq (.bool false)
    | 107 => SP.eq (.agg #[.string kk.name, .string kk.key, .int .i64 kk.kind, .int .u64 kk.num, .string kk.text, .slice K4 kk.kids.length k4c])
    | 108 => SP.eq (.int .i64 (kk.size : Nat))
    | 109 => SP.eq (.agg #[.string m.name, .string m.key, .int .i64 m.kind, .int .u64 m.num, .string m.text, .slice K2 m.kids.length k2c])
    | 110 => SP.eq (.int .i64 (m.size : Nat))
    | 111 => SP.eq (.agg #[.string x.name, .string x.key, .int .i64 x.kind, .int .u64 x.num, .string x.text, .slice Kx x.kids.length k0])
    | 112 => SP.eq (.int .i64 (x.size : Nat))
    | 113 => SP.eq (.int .i64 (kk.size : Nat))
    | 114 => SP.eq (.bool false)
    | 115 => SP.eq (.bool false)
    | _ => SP.any) 20 (by kernel_rfl) 135 rfl (by kernel_rfl) ?_ ?_
  · skip
    refine ⟨?_, ?_, ?_, ?_, ?_, ?_, ?_, ?_, ?_, ?_, ?_, ?_, ?_, ?_, ?_, ?_, ?_, ?_, ?_, ?_, trivial⟩
    · intro act W2 hk
      refine Flow.does_intro rfl (fun Kq hK => ?_)
      have e17 : act.tmps[17]?.getD undef = .int .i64 0 := hk.o 17 (by kernel_rfl)
      clear hk
      go_simp
      exact hK _ _ (Ext.refl _) (fun d hd => by cases hd; rfl)
    · intro act W2 hk
      refine Flow.does_intro rfl (fun Kq hK => ?_)
      have e96 : act.tmps[96]?.getD undef = .int .i64 0 := hk.v 96 (by kernel_rfl)
      clear hk
      go_simp
      exact hK _ _ (Ext.refl _) (fun d hd => by cases hd; rfl)
    · intro act W2 hk
      refine Flow.does_intro rfl (fun Kq hK => ?_)
      have e97 : act.tmps[97]?.getD undef = .bool false := hk.v 97 (by kernel_rfl)
      clear hk
      go_simp
      exact hK _ _ (Ext.refl _) (fun d hd => by cases hd; rfl)
    · intro act W2 hk
      have eg : act.tmps[98]?.getD undef = .bool false := hk.v 98 (by kernel_rfl)
      refine Flow.does_intro (wanted_yes rfl rfl eg) (fun Kq hK => ?_)
      clear eg
      have e19 : act.tmps[19]?.getD undef = .bool false := hk.o 19 (by kernel_rfl)
      clear hk
      go_simp
      exact hK _ _ (Ext.refl _) (fun d hd => by cases hd; rfl)
    · intro act W2 hk
      refine Flow.does_intro rfl (fun Kq hK => ?_)
      have e98 : act.tmps[98]?.getD undef = .bool false := hk.v 98 (by kernel_rfl)
      have e99 : act.tmps[99]?.getD undef = .bool false := hk.v 99 (by kernel_rfl)
      clear hk
      go_simp
      exact hK _ _ (Ext.refl _) (fun d hd => by cases hd; rfl)
    · intro act W2 hk
      refine Flow.does_intro rfl (fun Kq hK => ?_)
      have e100 : act.tmps[100]?.getD undef = .bool false := hk.v 100 (by kernel_rfl)
      clear hk
      go_simp
      exact hK _ _ (Ext.refl _) (fun d hd => by cases hd; rfl)
    · intro act W2 hk
      have eg : act.tmps[101]?.getD undef = .bool false := hk.v 101 (by kernel_rfl)
      refine Flow.does_intro (wanted_yes rfl rfl eg) (fun Kq hK => ?_)
      clear eg
      have e16 : act.tmps[16]?.getD undef = .pointer (some ⟨p4, 0, none⟩) := hk.o 16 (by kernel_rfl)
      have g := ((k4.out).ext ((Ext.drew W12).trans hk.ext)).cell
      clear hk
      go_simp
      exact hK _ _ (Ext.refl _) (fun d hd => by cases hd; rfl)
    · intro act W2 hk
      have eg : act.tmps[101]?.getD undef = .bool false := hk.v 101 (by kernel_rfl)
      refine Flow.does_intro (wanted_yes rfl rfl eg) (fun Kq hK => ?_)
      clear eg
      have e102 : act.tmps[102]?.getD undef = .agg #[.string kk.name, .string kk.key, .int .i64 kk.kind, .int .u64 kk.num, .string kk.text, .slice K4 kk.kids.length k4c] := hk.v 102 (by kernel_rfl)
      have hx0 := Hd.mk ((Ext.drew W12).trans hk.ext)
      clear hk
      go_simp
      refine Calls.mono (hRk.out _ _ (r4.out.ext hx0.out)) ?_
      rintro e W3 ⟨rfl, hx⟩
      exact hK _ _ hx (fun d hd => by cases hd; rfl)
    · intro act W2 hk
      have eg : act.tmps[101]?.getD undef = .bool false := hk.v 101 (by kernel_rfl)
      refine Flow.does_intro (wanted_yes rfl rfl eg) (fun Kq hK => ?_)
      clear eg
      have e103 : act.tmps[103]?.getD undef = .bool true := hk.v 103 (by kernel_rfl)
      clear hk
      go_simp
      exact hK _ _ (Ext.refl _) (fun d hd => by cases hd; rfl)
    · intro act W2 hk
      refine Flow.does_intro rfl (fun Kq hK => ?_)
      have e101 : act.tmps[101]?.getD undef = .bool false := hk.v 101 (by kernel_rfl)
      have e104 : act.tmps[104]?.getD undef = .bool false := hk.v 104 (by kernel_rfl)
      clear hk
      go_simp
      exact hK _ _ (Ext.refl _) (fun d hd => by cases hd; rfl)
    · intro act W2 hk
      refine Flow.does_intro rfl (fun Kq hK => ?_)
      have e105 : act.tmps[105]?.getD undef = .bool false := hk.v 105 (by kernel_rfl)
      clear hk
      go_simp
      exact hK _ _ (Ext.refl _) (fun d hd => by cases hd; rfl)
    · intro act W2 hk
      have eg : act.tmps[106]?.getD undef = .bool false := hk.v 106 (by kernel_rfl)
      refine Flow.does_intro (wanted_yes rfl rfl eg) (fun Kq hK => ?_)
      clear eg
      have e16 : act.tmps[16]?.getD undef = .pointer (some ⟨p4, 0, none⟩) := hk.o 16 (by kernel_rfl)
      have g := ((k4.out).ext ((Ext.drew W12).trans hk.ext)).cell
      clear hk
      go_simp
      exact hK _ _ (Ext.refl _) (fun d hd => by cases hd; rfl)
    · intro act W2 hk
      have eg : act.tmps[106]?.getD undef = .bool false := hk.v 106 (by kernel_rfl)
      refine Flow.does_intro (wanted_yes rfl rfl eg) (fun Kq hK => ?_)
      clear eg
      have e107 : act.tmps[107]?.getD undef = .agg #[.string kk.name, .string kk.key, .int .i64 kk.kind, .int .u64 kk.num, .string kk.text, .slice K4 kk.kids.length k4c] := hk.v 107 (by kernel_rfl)
      have hx0 := Hd.mk ((Ext.drew W12).trans hk.ext)
      clear hk
      go_simp
      refine Calls.mono (tree_size kk.size kk (fun _ => True) _ _ (Nat.le_refl _) hZk.out (r4.out.ext hx0.out)) ?_
      rintro e W3 ⟨rfl, hx⟩
      exact hK _ _ hx (fun d hd => by cases hd; rfl)
    · intro act W2 hk
      have eg : act.tmps[106]?.getD undef = .bool false := hk.v 106 (by kernel_rfl)
      refine Flow.does_intro (wanted_yes rfl rfl eg) (fun Kq hK => ?_)
      clear eg
      have e12 : act.tmps[12]?.getD undef = .pointer (some ⟨p2, 0, none⟩) := hk.o 12 (by kernel_rfl)
      have g := ((k2.out).ext ((Ext.drew W12).trans hk.ext)).cell
      clear hk
      go_simp
      exact hK _ _ (Ext.refl _) (fun d hd => by cases hd; rfl)
    · intro act W2 hk
      have eg : act.tmps[106]?.getD undef = .bool false := hk.v 106 (by kernel_rfl)
      refine Flow.does_intro (wanted_yes rfl rfl eg) (fun Kq hK => ?_)
      clear eg
      have e109 : act.tmps[109]?.getD undef = .agg #[.string m.name, .string m.key, .int .i64 m.kind, .int .u64 m.num, .string m.text, .slice K2 m.kids.length k2c] := hk.v 109 (by kernel_rfl)
      have hx0 := Hd.mk ((Ext.drew W12).trans hk.ext)
      clear hk
      go_simp
      refine Calls.mono (tree_size m.size m (fun _ => True) _ _ (Nat.le_refl _) hZm.out (r2.out.ext hx0.out)) ?_
      rintro e W3 ⟨rfl, hx⟩
      exact hK _ _ hx (fun d hd => by cases hd; rfl)
    · intro act W2 hk
      have eg : act.tmps[106]?.getD undef = .bool false := hk.v 106 (by kernel_rfl)
      refine Flow.does_intro (wanted_yes rfl rfl eg) (fun Kq hK => ?_)
      clear eg
      have e5 : act.tmps[5]?.getD undef = .pointer (some ⟨pN + 1, 0, none⟩) := hk.o 5 (by kernel_rfl)
      have g := ((kX.out).ext ((Ext.drew W12).trans hk.ext)).cell
      clear hk
      go_simp
      exact hK _ _ (Ext.refl _) (fun d hd => by cases hd; rfl)
    · intro act W2 hk
      have eg : act.tmps[106]?.getD undef = .bool false := hk.v 106 (by kernel_rfl)
      refine Flow.does_intro (wanted_yes rfl rfl eg) (fun Kq hK => ?_)
      clear eg
      have e111 : act.tmps[111]?.getD undef = .agg #[.string x.name, .string x.key, .int .i64 x.kind, .int .u64 x.num, .string x.text, .slice Kx x.kids.length k0] := hk.v 111 (by kernel_rfl)
      have hx0 := Hd.mk ((Ext.drew W12).trans hk.ext)
      clear hk
      go_simp
      refine Calls.mono (tree_size x.size x (fun _ => True) _ _ (Nat.le_refl _) hZx.out (rx.out.ext hx0.out)) ?_
      rintro e W3 ⟨rfl, hx⟩
      exact hK _ _ hx (fun d hd => by cases hd; rfl)
    · intro act W2 hk
      have eg : act.tmps[106]?.getD undef = .bool false := hk.v 106 (by kernel_rfl)
      refine Flow.does_intro (wanted_yes rfl rfl eg) (fun Kq hK => ?_)
      clear eg
      have e110 : act.tmps[110]?.getD undef = .int .i64 (m.size : Nat) := hk.v 110 (by kernel_rfl)
      have e112 : act.tmps[112]?.getD undef = .int .i64 (x.size : Nat) := hk.v 112 (by kernel_rfl)
      clear hk
      go_simp
      exact hK _ _ (Ext.refl _) (fun d hd => by cases hd; have h1 := q4.out; have h2 := hZm.out; simp [SP.eq]; first | omega | (unfold wrap64; omega) | (rw [IntKind.wrap_i64]; omega))
    · intro act W2 hk
      have eg : act.tmps[106]?.getD undef = .bool false := hk.v 106 (by kernel_rfl)
      refine Flow.does_intro (wanted_yes rfl rfl eg) (fun Kq hK => ?_)
      clear eg
      have e108 : act.tmps[108]?.getD undef = .int .i64 (kk.size : Nat) := hk.v 108 (by kernel_rfl)
      have e113 : act.tmps[113]?.getD undef = .int .i64 (kk.size : Nat) := hk.v 113 (by kernel_rfl)
      clear hk
      go_simp
      exact hK _ _ (Ext.refl _) (fun d hd => by cases hd; rfl)
    · intro act W2 hk
      refine Flow.does_intro rfl (fun Kq hK => ?_)
      have e106 : act.tmps[106]?.getD undef = .bool false := hk.v 106 (by kernel_rfl)
      have e114 : act.tmps[114]?.getD undef = .bool false := hk.v 114 (by kernel_rfl)
      clear hk
      go_simp
      exact hK _ _ (Ext.refl _) (fun d hd => by cases hd; rfl)
  · intro act W2 he
    have hxW2 := Hd.mk ((Ext.drew W12).trans he.ext)
    obtain ⟨us, hA, hF⟩ := he.out [96, 97, 98, 99, 100, 101, 102, 103, 104, 105, 106, 107, 108, 109, 110, 111, 112, 113, 114, 115] (by kernel_rfl)
    simp only [Flow.fillL, List.contains_cons, List.contains_nil, Nat.reduceBEq, Bool.or_false, Bool.false_or, Bool.or_true, Bool.true_or, ↓reduceIte, Nat.reduceAdd, Bool.false_eq_true] at hA
    subst hA
    have f115 : us 115 = .bool false := hF 115 (by simp)
    clear hF he
    rw [f115]
    clear f115
    refine (show wpList _ _ _ [] _ _ from ?_)
    replace kx := Hd.mk (kx.out.trans hxW2.out)
    replace kN := Hd.mk (kN.out.ext hxW2.out)
    replace kX := Hd.mk (kX.out.ext hxW2.out)
    replace rn := Hd.mk (rn.out.ext hxW2.out)
    replace rx := Hd.mk (rx.out.ext hxW2.out)
    replace rw' := Hd.mk (rw'.out.ext hxW2.out)
    replace k1 := Hd.mk (k1.out.ext hxW2.out)
    replace r1 := Hd.mk (r1.out.ext hxW2.out)
    replace k2 := Hd.mk (k2.out.ext hxW2.out)
    replace r2 := Hd.mk (r2.out.ext hxW2.out)
    replace k3 := Hd.mk (k3.out.ext hxW2.out)
    replace r3 := Hd.mk (r3.out.ext hxW2.out)
    replace k4 := Hd.mk (k4.out.ext hxW2.out)
    replace r4 := Hd.mk (r4.out.ext hxW2.out)
    clear hxW2
    generalize W2 = V2 at *
    cases hg : getT n way with
    | none =>
      obtain rfl := q5.out hg
      have gk4 := k4.out.cell
      have gkN := kN.out.cell
      go_wp2_with fail
      clear gk4 gkN
      refine Calls.mono (hSn.out _ _ _ r4.out rn.out) ?_
      rintro e w13 ⟨rfl, hx⟩
      replace kx := Hd.mk (kx.out.trans hx)
      replace kN := Hd.mk (kN.out.ext hx)
      replace kX := Hd.mk (kX.out.ext hx)
      replace rn := Hd.mk (rn.out.ext hx)
      replace rx := Hd.mk (rx.out.ext hx)
      replace rw' := Hd.mk (rw'.out.ext hx)
      replace k1 := Hd.mk (k1.out.ext hx)
      replace r1 := Hd.mk (r1.out.ext hx)
      replace k2 := Hd.mk (k2.out.ext hx)
      replace r2 := Hd.mk (r2.out.ext hx)
      replace k3 := Hd.mk (k3.out.ext hx)
      replace r3 := Hd.mk (r3.out.ext hx)
      replace k4 := Hd.mk (k4.out.ext hx)
      replace r4 := Hd.mk (r4.out.ext hx)
      clear hx
      go_wp2_with fail
      go_ret
      exact ⟨rfl, kx.out⟩
    | some old =>
      have ho := q6.out old hg
      have hzo := getT_size way n old hg
      simp only [hg, Option.getD_some] at k1 r1
      have hS2 := Hd.mk (fun W c cx (h1 : RT (fun _ => True) W kk c) (h2 : RT (fun _ => True) W old cx) (h3 : WRow (fun _ => True) W A way ac) => (show Calls Try.prog 70 _ W (Ret (TwoPost n (.int .i64 0) W)) from by have h9 := Calls.mono (tree_set kk old way (fun _ => True) (fun _ => True) (fun _ => True) W c cx A ac h1 h2 h3 q8.out (by have := hs1.out; have := hs2.out; have := hzm.out; have := q4.out; omega)) chg_two; rw [ho] at h9; exact h9))
      clear ho hzo
      have gk4 := k4.out.cell
      have gk1 := k1.out.cell
      go_wp2_with fail
      clear gk4 gk1
      refine Calls.mono (hS2.out _ _ _ r4.out r1.out rw'.out) ?_
      rintro e w13 ⟨_, rfl, c9, rfl, hr9, hx⟩
      obtain ⟨K6, k6c, rfl, _⟩ := hr9.row
      simp only [cT] at hr9 ⊢
      have hxA := hx.trans (Ext.alloc w13 (.cells #[.string n.name, .string n.key, .int .i64 n.kind, .int .u64 n.num, .string n.text, .slice K6 n.kids.length k6c] 54))
      replace kx := Hd.mk (kx.out.trans hxA)
      replace kN := Hd.mk (kN.out.ext hxA)
      replace kX := Hd.mk (kX.out.ext hxA)
      replace rn := Hd.mk (rn.out.ext hxA)
      replace rx := Hd.mk (rx.out.ext hxA)
      replace rw' := Hd.mk (rw'.out.ext hxA)
      replace k1 := Hd.mk (k1.out.ext hxA)
      replace r1 := Hd.mk (r1.out.ext hxA)
      replace k2 := Hd.mk (k2.out.ext hxA)
      replace r2 := Hd.mk (r2.out.ext hxA)
      replace k3 := Hd.mk (k3.out.ext hxA)
      replace r3 := Hd.mk (r3.out.ext hxA)
      replace k4 := Hd.mk (k4.out.ext hxA)
      replace r4 := Hd.mk (r4.out.ext hxA)
      have k6 := Hd.mk (Blk.new w13 #[.string n.name, .string n.key, .int .i64 n.kind, .int .u64 n.num, .string n.text, .slice K6 n.kids.length k6c] 54)
      replace hr9 := Hd.mk (hr9.ext (Ext.alloc w13 (.cells #[.string n.name, .string n.key, .int .i64 n.kind, .int .u64 n.num, .string n.text, .slice K6 n.kids.length k6c] 54)))
      clear hx hxA
      have gk6 := k6.out.cell
      have gkN := kN.out.cell
      go_wp2_with fail
      clear gk6 gkN
      generalize w13.heap.size = p6 at *
      generalize w13.alloc _ = W13 at *
      have r6 := hr9
      clear hr9
      refine Calls.mono (hSn.out _ _ _ r6.out rn.out) ?_
      rintro e w14 ⟨rfl, hx⟩
      replace kx := Hd.mk (kx.out.trans hx)
      replace kN := Hd.mk (kN.out.ext hx)
      replace kX := Hd.mk (kX.out.ext hx)
      replace rn := Hd.mk (rn.out.ext hx)
      replace rx := Hd.mk (rx.out.ext hx)
      replace rw' := Hd.mk (rw'.out.ext hx)
      replace k1 := Hd.mk (k1.out.ext hx)
      replace r1 := Hd.mk (r1.out.ext hx)
      replace k2 := Hd.mk (k2.out.ext hx)
      replace r2 := Hd.mk (r2.out.ext hx)
      replace k3 := Hd.mk (k3.out.ext hx)
      replace r3 := Hd.mk (r3.out.ext hx)
      replace k4 := Hd.mk (k4.out.ext hx)
      replace r4 := Hd.mk (r4.out.ext hx)
      replace k6 := Hd.mk (k6.out.ext hx)
      replace r6 := Hd.mk (r6.out.ext hx)
      clear hx
      go_wp2_with fail
      go_ret
      exact ⟨rfl, kx.out⟩
end Go.Proofs.Ytgkgedjmnbjalaa

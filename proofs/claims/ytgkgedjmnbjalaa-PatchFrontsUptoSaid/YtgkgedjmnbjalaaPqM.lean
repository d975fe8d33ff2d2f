/- Texts that the law needs, joined.
   Conditions: none. -/
import Derived.Test.YtgkgedjmnbjalaaPqL
import Derived.Test.YtgkgedjmnbjalaaPqH
import Derived.Test.YtgkgedjmnbjalaaPqF
import Derived.Test.YtgkgedjmnbjalaaPqJ
set_option linter.unusedSimpArgs false
set_option linter.unusedVariables false
namespace Go.Proofs.Ytgkgedjmnbjalaa
open Go.RowKit Go.Sort
set_option maxRecDepth 100000 in
set_option maxHeartbeats 4000000 in
theorem makes17_walk (a b : T) (w : World) (ca cb : List Value) (ha : RT (fun _ => True) w a ca) (hb : RT (fun _ => True) w b cb) (hsa : a.size ≤ 1048576) (hsb : b.size ≤ 1048576) :
    Calls Try.prog 12 #[.agg ca.toArray, .agg cb.toArray] w fun e w' => e = .returned (.bool true) ∧ Ext w w' := by
  obtain ⟨K1, c1, rfl, ra⟩ := ha.row
  obtain ⟨K2, c2, rfl, rb⟩ := hb.row
  have hsm := Hd.mk (fun W (h : Ext w W) => law_small17 a b (fun _ => True) W _ _ (ha.ext h) (hb.ext h) hsa hsb)
  have hxr : RT (fun _ => True) w a [.string a.name, .string a.key, .int .i64 a.kind, .int .u64 a.num, .string a.text, .slice K1 a.kids.length c1] := ha
  have hyr : RT (fun _ => True) w (a.wk b.kids) [.string a.name, .string a.key, .int .i64 a.kind, .int .u64 a.num, .string a.text, .slice K2 b.kids.length c2] := RT.of_row (t := a.wk b.kids) rb
  replace hxr := Hd.mk hxr
  replace hyr := Hd.mk hyr
  clear ha hb ra rb hsa hsb
  simp only [cT] at hsm ⊢
  go_enter Try.func12, Try.ntmps12
  go_wp2_with fail
  have kx := Hd.mk ((Ext.alloc w (.cells #[.string a.name, .string a.key, .int .i64 a.kind, .int .u64 a.num, .string a.text, .slice K1 a.kids.length c1] 54)).trans (Ext.alloc _ (.cells #[.string b.name, .string b.key, .int .i64 b.kind, .int .u64 b.num, .string b.text, .slice K2 b.kids.length c2] 54)))
  have kA := Hd.mk ((Blk.new w #[.string a.name, .string a.key, .int .i64 a.kind, .int .u64 a.num, .string a.text, .slice K1 a.kids.length c1] 54).alloc (.cells #[.string b.name, .string b.key, .int .i64 b.kind, .int .u64 b.num, .string b.text, .slice K2 b.kids.length c2] 54))
  have kB := Hd.mk (Blk.new2 w (.cells #[.string a.name, .string a.key, .int .i64 a.kind, .int .u64 a.num, .string a.text, .slice K1 a.kids.length c1] 54) #[.string b.name, .string b.key, .int .i64 b.kind, .int .u64 b.num, .string b.text, .slice K2 b.kids.length c2] 54)
  generalize hpA : w.heap.size = pA at *
  replace hpA := Hd.mk hpA
  generalize (w.alloc _).alloc _ = W at *
  refine Calls.mono (awake17 _) ?_
  rintro e w1 ⟨rfl, hx⟩
  have kx1 := Hd.mk (kx.out.trans hx)
  have kA1 := Hd.mk (kA.out.ext hx)
  have kB1 := Hd.mk (kB.out.ext hx)
  clear hx kx kA kB
  have gA := kA1.out.cell
  have gB := kB1.out.cell
  go_wp2_with fail
  refine Calls.mono (hsm.out _ kx1.out) ?_
  rintro e w2 ⟨rfl, hx⟩
  have kx2 := Hd.mk (kx1.out.trans hx)
  have kA2 := Hd.mk (kA1.out.ext hx)
  have kB2 := Hd.mk (kB1.out.ext hx)
  clear hx kx1 kA1 kB1 gA gB hsm
  have gA := kA2.out.cell
  have gB := kB2.out.cell
  cases hb0 : smallB a b with
  | false =>
    go_wp2_with fail
    go_ret
    exact ⟨rfl, kx2.out⟩
  | true =>
    simp only [smallB, Bool.and_eq_true, decide_eq_true_eq] at hb0
    obtain ⟨s1, s2, s3, s4, s5, s6⟩ := hb0
    have hyk : (a.wk b.kids).kind = 0 := s3
    have hyR := wk_right s3 s4 s5 s6
    have hys : (a.wk b.kids).size ≤ 300 := by rw [wk_size]; rw [b.size_eq] at s2; exact s2
    have hst : stepT a = stepT (a.wk b.kids) := rfl
    have hsame : Hd (∀ q, q = a.wk b.kids → True) := ⟨fun _ _ => trivial⟩
    clear hsame
    clear s2 s4 s6
    generalize a.wk b.kids = y at *
    have hdY := Nat.le_trans y.deep_le hys
    have hdA := Nat.le_trans a.deep_le s1
    have hE1 := Hd.mk (fun W (h : Ext w W) => ref_edits (N := 300) hdA (hxr.out.ext h) (hyr.out.ext h) (by omega) (by omega))
    have hpl := makes_plain (N := 300) hdA hdY s3 hyk s5 hyR hst
    obtain ⟨hgd, hln⟩ := edits_small (N := 300) (a := a) (b := y) s5 (fun z hz => (right_kid' hyR hz).2) s1 hys
    have hgi := inverse_good hgd (by omega)
    have hli := inverse_le (edits 300 a y [])
    have hm1 := good_sum hgd hln
    have hm2 := good_sum hgi (by omega)
    have hP1 := Hd.mk (fun W A c (hx : Ext w W) (he : ERow (fun _ => True) W A (edits 300 a y []) c) => (show Calls Try.prog 55 _ W (Ret (NewPost y [.int .i64 0, .int .i64 0] W)) from by have h := patch_apply a (edits 300 a y []) (fun _ => True) (fun _ => True) W _ A c (hxr.out.ext hx) he s5 (fun e he _ => (hgd e he).1) (by omega); rw [hpl.1 0] at h; exact h))
    have hP2 := Hd.mk (fun W A c cy (hy : RT (fun _ => True) W y cy) (he : ERow (fun _ => True) W A (inverse (edits 300 a y [])) c) => (show Calls Try.prog 55 _ W (Ret (NewPost a [.int .i64 0, .int .i64 0] W)) from by have h := patch_apply y (inverse (edits 300 a y [])) (fun _ => True) (fun _ => True) W cy A c hy he hyR (fun e he _ => (hgi e he).1) (by omega); rw [hpl.2 0] at h; exact h))
    have hI := Hd.mk (fun W A c (he : ERow (fun _ => True) W A (edits 300 a y []) c) => ref_inverse (edits 300 a y []) (fun _ => True) W A c he)
    have hS1 := Hd.mk (fun W c d (h1 : RT (fun _ => True) W y c) (h2 : RT (fun _ => True) W y d) => ref_same 300 y y (fun _ => True) W c d hdY h1 h2)
    have hS2 := Hd.mk (fun W c d (h1 : RT (fun _ => True) W a c) (h2 : RT (fun _ => True) W a d) => ref_same 300 a a (fun _ => True) W c d hdA h1 h2)
    rw [sameT_rfl] at hS1 hS2
    clear hgd hln hgi hli hm1 hm2 hpl hdY hdA s1 s3 s5 hyk hyR hys hst
    generalize inverse (edits 300 a y []) = es2 at *
    generalize edits 300 a y [] = es at *
    have gA := kA2.out.cell
    have gB := kB2.out.cell
    have fB := kB2.out.free
    have lA := kA2.out.lt
    have lB := kB2.out.lt
    go_wp2_with ((with_reducible refine stop_at (.load 54 (.tmp 2)) ?_))
    refine Stop.mk ?_
    generalize w2 = W2 at *
    have kA3 : Blk (((((W2.setCell ⟨pA + 1, 0, none⟩ (.string a.name)).setCell ⟨pA + 1, 1, none⟩ (.string a.key)).setCell ⟨pA + 1, 2, none⟩ (.int .i64 a.kind)).setCell ⟨pA + 1, 3, none⟩ (.int .u64 a.num)).setCell ⟨pA + 1, 4, none⟩ (.string a.text)) pA [.string a.name, .string a.key, .int .i64 a.kind, .int .u64 a.num, .string a.text, .slice K1 a.kids.length c1] 54 := (((((kA2.out.setCell_other (a := ⟨pA + 1, 0, none⟩) (by show pA ≠ pA + 1; omega) (.string a.name)).setCell_other (a := ⟨pA + 1, 1, none⟩) (by show pA ≠ pA + 1; omega) (.string a.key)).setCell_other (a := ⟨pA + 1, 2, none⟩) (by show pA ≠ pA + 1; omega) (.int .i64 a.kind)).setCell_other (a := ⟨pA + 1, 3, none⟩) (by show pA ≠ pA + 1; omega) (.int .u64 a.num)).setCell_other (a := ⟨pA + 1, 4, none⟩) (by show pA ≠ pA + 1; omega) (.string a.text))
    have kB3 : Blk (((((W2.setCell ⟨pA + 1, 0, none⟩ (.string a.name)).setCell ⟨pA + 1, 1, none⟩ (.string a.key)).setCell ⟨pA + 1, 2, none⟩ (.int .i64 a.kind)).setCell ⟨pA + 1, 3, none⟩ (.int .u64 a.num)).setCell ⟨pA + 1, 4, none⟩ (.string a.text)) (pA + 1) [.string a.name, .string a.key, .int .i64 a.kind, .int .u64 a.num, .string a.text, .slice K2 b.kids.length c2] 54 := (((((kB2.out.setCell 0 (.string a.name)).setCell 1 (.string a.key)).setCell 2 (.int .i64 a.kind)).setCell 3 (.int .u64 a.num)).setCell 4 (.string a.text))
    have kx3 : Ext w (((((W2.setCell ⟨pA + 1, 0, none⟩ (.string a.name)).setCell ⟨pA + 1, 1, none⟩ (.string a.key)).setCell ⟨pA + 1, 2, none⟩ (.int .i64 a.kind)).setCell ⟨pA + 1, 3, none⟩ (.int .u64 a.num)).setCell ⟨pA + 1, 4, none⟩ (.string a.text)) := (Below.trans (Below.trans (Below.trans (Below.trans (Below.trans kx2.out ((Upd.setCell _ ⟨pA + 1, 0, none⟩ (.string a.name)).below (by show w.heap.size ≤ pA + 1; have := hpA.out; omega))) ((Upd.setCell _ ⟨pA + 1, 1, none⟩ (.string a.key)).below (by show w.heap.size ≤ pA + 1; have := hpA.out; omega))) ((Upd.setCell _ ⟨pA + 1, 2, none⟩ (.int .i64 a.kind)).below (by show w.heap.size ≤ pA + 1; have := hpA.out; omega))) ((Upd.setCell _ ⟨pA + 1, 3, none⟩ (.int .u64 a.num)).below (by show w.heap.size ≤ pA + 1; have := hpA.out; omega))) ((Upd.setCell _ ⟨pA + 1, 4, none⟩ (.string a.text)).below (by show w.heap.size ≤ pA + 1; have := hpA.out; omega)))
    replace kA3 := Hd.mk kA3
    replace kB3 := Hd.mk kB3
    replace kx3 := Hd.mk kx3
    clear gA gB fB lA lB kA2 kB2 kx2
    generalize (((((W2.setCell ⟨pA + 1, 0, none⟩ (.string a.name)).setCell ⟨pA + 1, 1, none⟩ (.string a.key)).setCell ⟨pA + 1, 2, none⟩ (.int .i64 a.kind)).setCell ⟨pA + 1, 3, none⟩ (.int .u64 a.num)).setCell ⟨pA + 1, 4, none⟩ (.string a.text)) = W3 at *
    have gA := kA3.out.cell
    have gB := kB3.out.cell
    go_wp2_with fail
    refine Calls.mono (hE1.out _ kx3.out) ?_
    rintro e w4 ⟨_, rfl, A4, r4, rfl, hr4, hx⟩
    replace kx3 := Hd.mk (kx3.out.trans hx)
    replace kA3 := Hd.mk (kA3.out.ext hx)
    replace kB3 := Hd.mk (kB3.out.ext hx)
    replace hr4 := Hd.mk hr4
    clear hx gA gB
    have gA := kA3.out.cell
    have gB := kB3.out.cell
    go_wp2_with fail
    refine Calls.mono (hP1.out _ A4 r4 kx3.out hr4.out) ?_
    rintro e w5 ⟨_, rfl, c5, rfl, hr5, hx⟩
    obtain ⟨Kv, kv, rfl, _⟩ := hr5.row
    simp only [cT] at hr5
    replace kx3 := Hd.mk (kx3.out.trans hx)
    replace kA3 := Hd.mk (kA3.out.ext hx)
    replace kB3 := Hd.mk (kB3.out.ext hx)
    replace hr4 := Hd.mk (hr4.out.keep (S' := fun _ => True) fun b off v hb hc => ⟨trivial, Ext.cell hx hc⟩)
    replace hr5 := Hd.mk (hr5.mono (S' := fun _ => True) fun _ _ _ => trivial)
    clear hx gA gB hP1
    simp only [cT]
    have gA := kA3.out.cell
    have gB := kB3.out.cell
    go_wp2_with fail
    have hxA := Ext.alloc w5 (.cells #[.string y.name, .string y.key, .int .i64 y.kind, .int .u64 y.num, .string y.text, .slice Kv y.kids.length kv] 54)
    replace kx3 := Hd.mk (kx3.out.trans hxA)
    replace kA3 := Hd.mk (kA3.out.ext hxA)
    replace kB3 := Hd.mk (kB3.out.ext hxA)
    replace hr4 := Hd.mk (hr4.out.keep (S' := fun _ => True) fun b off v hb hc => ⟨trivial, Ext.cell hxA hc⟩)
    replace hr5 := Hd.mk (hr5.out.ext hxA)
    have kD5 := Hd.mk (Blk.new w5 #[.string y.name, .string y.key, .int .i64 y.kind, .int .u64 y.num, .string y.text, .slice Kv y.kids.length kv] 54)
    clear hxA gA gB
    generalize w5.heap.size = pD at *
    generalize w5.alloc _ = W5 at *
    go_wp2_with fail
    refine FlowJ.wp_region_flow_l (x := 8) (tx := 11) (Y := [(3, 45), (4, 41), (5, 46)]) (J := JX a [.int .i64 0, .int .i64 0]) (G := GX 11 a) (gx_ext _ _) (R := Rb W5.heap.size) 9 (fun _ _ h => rb_ext h) (fun h k => rb_trans h k) (fun qq => match qq with
      | 42 => SP.eq (.agg #[.string y.name, .string y.key, .int .i64 y.kind, .int .u64 y.num, .string y.text, .slice Kv y.kids.length kv])
      | 43 => SP.eq (.slice A4 es.length r4)
      | 44 => spE es2
      | 45 => spTupX a [.int .i64 0, .int .i64 0]
      | 41 => spTupX a [.int .i64 0, .int .i64 0]
      | 46 => spAggX a
      | 47 => SP.eq (.int .i64 0)
      | 48 => SP.eq (.int .i64 0)
      | 11 => spBoxE W5.heap.size
      | 12 => SP.eq (.int .i64 0)
      | _ => SP.any) (FlowJ.over [(45, spFormX [.int .i64 0, .int .i64 0]), (41, spFormX [.int .i64 0, .int .i64 0]), (46, SP.any), (44, SP.any)] (fun qq => match qq with
      | 42 => SP.eq (.agg #[.string y.name, .string y.key, .int .i64 y.kind, .int .u64 y.num, .string y.text, .slice Kv y.kids.length kv])
      | 43 => SP.eq (.slice A4 es.length r4)
      | 44 => spE es2
      | 45 => spTupX a [.int .i64 0, .int .i64 0]
      | 41 => spTupX a [.int .i64 0, .int .i64 0]
      | 46 => spAggX a
      | 47 => SP.eq (.int .i64 0)
      | 48 => SP.eq (.int .i64 0)
      | 11 => spBoxE W5.heap.size
      | 12 => SP.eq (.int .i64 0)
      | _ => SP.any)) 11 (by kernel_rfl) 65 rfl (by kernel_rfl) (of_decide_eq_true (by kernel_rfl)) (by decide) (by kernel_rfl) ?_ ?_ ?_ ?_ ?_
    · refine ⟨by decide, rfl, by kernel_rfl, ?_, jx_mono _ _⟩
      intro q hq
      simp only [List.mem_cons, List.not_mem_nil, or_false] at hq
      rcases hq with rfl | rfl | rfl
      all_goals exact ⟨by decide, by decide, by decide, rfl, by kernel_rfl⟩
    · refine FlowJ.over_weak (fun q hq => ?_)
      simp only [List.mem_cons, List.not_mem_nil, or_false] at hq
      rcases hq with rfl | rfl | rfl | rfl
      · exact fun u v1 ⟨c, e, _⟩ => ⟨c, e⟩
      · exact fun u v1 ⟨c, e, _⟩ => ⟨c, e⟩
      · exact fun u v1 _ => trivial
      · exact fun u v1 _ => trivial
    · intro q hq u' v1 v2 hR
      by_cases q0 : q = 45
      · subst q0; exact fun ⟨c, e, _⟩ => ⟨c, e⟩
      by_cases q1 : q = 41
      · subst q1; exact fun ⟨c, e, _⟩ => ⟨c, e⟩
      by_cases q2 : q = 46
      · subst q2; exact fun _ => trivial
      by_cases q3 : q = 44
      · subst q3; exact fun _ => trivial
      rw [over_ne q0, over_ne q1, over_ne q2, over_ne q3]
      simp only [FlowJ.over]
      split
      all_goals first | exact fun h => h | exact absurd rfl q0 | exact absurd rfl q1 | exact absurd rfl q2 | exact absurd rfl q3 | exact fun ⟨D, e, h1, c, hb, hc⟩ => ⟨D, e, h1, hR.2.2 D c hb hc⟩
    · refine ⟨?_, ?_, ?_, ?_, ?_, ?_, ?_, ?_, ?_, ?_, ?_, trivial⟩
      · intro act W2 hk
        refine FlowJ.does_intro rfl (fun Kq hK => ?_)
        have e8 : act.tmps[8]?.getD undef = .pointer (some ⟨pD, 0, none⟩) := hk.o 8 (by kernel_rfl)
        have g := ((kD5.out).ext ((Ext.drew W5).trans (hk.early (.inr (by kernel_rfl))))).cell
        clear hk
        go_simp
        exact hK _ _ (Ext.refl _) (xt_no (by decide) (by decide) (by decide)) (fun d hd => by cases hd; first | rfl | (simp [SP.eq]; omega))
      · intro act W2 hk
        refine FlowJ.does_intro rfl (fun Kq hK => ?_)
        have e7 : act.tmps[7]?.getD undef = .slice A4 es.length r4 := hk.o 7 (by kernel_rfl)
        clear hk
        go_simp
        exact hK _ _ (Ext.refl _) (xt_no (by decide) (by decide) (by decide)) (fun d hd => by cases hd; first | rfl | (simp [SP.eq]; omega))
      · intro act W2 hk
        refine FlowJ.does_intro rfl (fun Kq hK => ?_)
        have e43 : act.tmps[43]?.getD undef = .slice A4 es.length r4 := hk.ve 43 (by kernel_rfl) (by kernel_rfl)
        have hx0 := Hd.mk ((Ext.drew W5).trans (hk.early (.inr (by kernel_rfl))))
        clear hk
        go_simp
        refine Calls.mono (hI.out _ _ _ (hr4.out.keep (S' := fun _ => True) fun b off v hb hc => ⟨trivial, Ext.cell hx0.out hc⟩)) ?_
        rintro e W3 ⟨_, rfl, A9, r9, rfl, hr9, hx⟩
        exact hK _ _ hx (xt_no (by decide) (by decide) (by decide)) (fun d hd => by cases hd; exact ⟨A9, r9, rfl, hr9⟩)
      · intro act W2 hk
        refine FlowJ.does_intro rfl (fun Kq hK => ?_)
        have e42 : act.tmps[42]?.getD undef = .agg #[.string y.name, .string y.key, .int .i64 y.kind, .int .u64 y.num, .string y.text, .slice Kv y.kids.length kv] := hk.ve 42 (by kernel_rfl) (by kernel_rfl)
        obtain ⟨A9, r9, e44, hr8⟩ := (hk.ve 44 (by kernel_rfl) (by kernel_rfl) : (spE es2).p _ _)
        have hx0 := Hd.mk ((Ext.drew W5).trans (hk.early (.inr (by kernel_rfl))))
        clear hk
        go_simp
        refine Calls.mono (hP2.out _ A9 r9 _ (hr5.out.ext hx0.out) hr8) ?_
        rintro e W3 ⟨_, rfl, c9, rfl, hr9, hx⟩
        exact hK _ _ hx ⟨fun h => absurd h (by decide), fun h => absurd h (by decide), fun q hq h u hu _ => jx_call hr9 hu⟩ (fun d hd => by cases hd; exact ⟨c9, rfl, hr9.mono fun _ _ _ => trivial⟩)
      · intro act W2 hk
        refine FlowJ.does_intro rfl (fun Kq hK => ?_)
        obtain ⟨c9, e45, hr9⟩ := (hk.ve 45 (by kernel_rfl) (by kernel_rfl) : (spTupX a [.int .i64 0, .int .i64 0]).p _ _)
        clear hk
        go_simp
        refine hK _ _ (Ext.refl _) ⟨fun h => absurd h (by decide), fun h => absurd h (by decide), fun q hq h u hu hj => ?_⟩ (fun d hd => by cases hd; exact ⟨c9, rfl, hr9⟩)
        have h1 := hj (3, 45) (by simp) (by kernel_rfl)
        rw [Array.getD_eq_getD_getElem?] at h1
        rw [e45] at h1
        exact h1
      · intro act W2 hk
        refine FlowJ.does_intro rfl (fun Kq hK => ?_)
        obtain ⟨c9, e41, hr9⟩ := (hk.ve 41 (by kernel_rfl) (by kernel_rfl) : (spTupX a [.int .i64 0, .int .i64 0]).p _ _)
        clear hk
        go_simp
        refine hK _ _ (Ext.refl _) ⟨fun h => absurd h (by decide), fun h => absurd h (by decide), fun q hq h u hu hj => ?_⟩ (fun d hd => by cases hd; exact ⟨c9, rfl, hr9⟩)
        have h1 := hj (4, 41) (by simp) (by kernel_rfl)
        rw [Array.getD_eq_getD_getElem?] at h1
        rw [e41] at h1
        exact jx_take h1
      · intro act W2 hk
        refine FlowJ.does_intro rfl (fun Kq hK => ?_)
        obtain ⟨c9, e41⟩ := (hk.v 41 (by kernel_rfl) : (spFormX [.int .i64 0, .int .i64 0]).p _ _)
        clear hk
        go_simp
        exact hK _ _ (Ext.refl _) (xt_no (by decide) (by decide) (by decide)) (fun d hd => by cases hd; first | rfl | (simp [SP.eq]; omega))
      · intro act W2 hk
        refine FlowJ.does_intro rfl (fun Kq hK => ?_)
        obtain ⟨c9, e41⟩ := (hk.v 41 (by kernel_rfl) : (spFormX [.int .i64 0, .int .i64 0]).p _ _)
        clear hk
        go_simp
        exact hK _ _ (Ext.refl _) (xt_no (by decide) (by decide) (by decide)) (fun d hd => by cases hd; first | rfl | (simp [SP.eq]; omega))
      · intro act W2 hk
        refine FlowJ.does_intro rfl (fun Kq hK => ?_)
        have hx0 := Hd.mk ((Ext.drew W5).trans (hk.early (.inr (by kernel_rfl))))
        clear hk
        go_simp
        refine hK _ _ (Ext.alloc _ _) ⟨fun h => absurd h (by decide), fun h q hq u hu => ?_, fun q hq h => ?_⟩ (fun d hd => by cases hd; exact ⟨_, rfl, hx0.out.size, _, Blk.new _ _ _, rfl⟩)
        · simp only [List.mem_cons, List.not_mem_nil, or_false] at hq
          rcases hq with rfl | rfl | rfl
          · exact jx_alloc (.inl hu)
          · exact jx_alloc (.inl hu)
          · exact jx_alloc (.inr hu)
        · simp only [List.mem_cons, List.not_mem_nil, or_false] at hq
          rcases hq with rfl | rfl | rfl <;> cases h
      · intro act W2 hk
        refine FlowJ.does_intro rfl (fun Kq hK => ?_)
        obtain ⟨c9, e46, hr9⟩ := (hk.ve 46 (by kernel_rfl) (by kernel_rfl) : (spAggX a).p _ _)
        obtain ⟨D, e11, hDn, cD, hD, hc6⟩ := (hk.ve 11 (by kernel_rfl) (by kernel_rfl) : (spBoxE _).p _ _)
        have hrel := hk.rel rfl (5, 46) (by simp)
        simp only [Array.getD_eq_getD_getElem?] at hrel
        rw [e46, e11] at hrel
        have hrt := Hd.mk (hrel D c9 rfl (.inr rfl))
        clear hrel hk
        obtain ⟨Ku, ku, rfl, _⟩ := hr9.row
        simp only [cT] at hrt e46
        clear hr9
        obtain ⟨x0, x1, x2, x3, x4, x5, rfl⟩ : ∃ x0 x1 x2 x3 x4 x5, cD = [x0, x1, x2, x3, x4, x5] := by match cD, hc6 with | [a, b, c, d, e, f], _ => exact ⟨a, b, c, d, e, f, rfl⟩
        have kD := Hd.mk hD
        have eA := Hd.mk e11
        have gD := kD.out.cell
        have fD := kD.out.free
        clear hD
        go_simp
        have hu := ((((((Upd.setCell W2 ⟨D, 0, none⟩ (.string a.name)).trans (Upd.setCell _ ⟨D, 1, none⟩ (.string a.key))).trans (Upd.setCell _ ⟨D, 2, none⟩ (.int .i64 a.kind))).trans (Upd.setCell _ ⟨D, 3, none⟩ (.int .u64 a.num))).trans (Upd.setCell _ ⟨D, 4, none⟩ (.string a.text))).trans (Upd.setCell _ ⟨D, 5, none⟩ (.slice Ku a.kids.length ku)))
        have kDn := ((((((kD.out.setCell 0 (.string a.name)).setCell 1 (.string a.key)).setCell 2 (.int .i64 a.kind)).setCell 3 (.int .u64 a.num)).setCell 4 (.string a.text)).setCell 5 (.slice Ku a.kids.length ku))
        refine hK undef _ (rb_upd hDn hu ⟨_, kDn, rfl⟩) ⟨fun _ D2 hD2 => ?_, fun h => absurd h (by decide), fun q hq h => ?_⟩ (fun d hd => by cases hd)
        · have e9b := eA.out
          rw [Array.getD_eq_getD_getElem?] at hD2
          rw [e9b] at hD2
          cases hD2
          exact ⟨_, kDn, hrt.out.upd hu (fun h => h rfl)⟩
        · simp only [List.mem_cons, List.not_mem_nil, or_false] at hq
          rcases hq with rfl | rfl | rfl <;> cases h
      · intro act W2 hk
        refine FlowJ.does_intro rfl (fun Kq hK => ?_)
        have e47 : act.tmps[47]?.getD undef = .int .i64 0 := hk.v 47 (by kernel_rfl)
        clear hk
        go_simp
        exact hK _ _ (Ext.refl _) (xt_no (by decide) (by decide) (by decide)) (fun d hd => by cases hd; first | rfl | (simp [SP.eq]; omega))
    · intro act V2 he
      have hxV2 := Hd.mk (rb_below (rb_trans (rb_ext (Ext.drew W5)) he.ext))
      obtain ⟨aP, hG1, hG2⟩ := he.post
      have hG9 := hG2 11 (by kernel_rfl)
      obtain ⟨us, hA, hF⟩ := he.out [42, 43, 44, 45, 41, 46, 47, 48, 11, 12] (by kernel_rfl)
      simp only [Flow.fillL, List.contains_cons, List.contains_nil, Nat.reduceBEq, Bool.or_false, Bool.false_or, Bool.or_true, Bool.true_or, ↓reduceIte, Nat.reduceAdd, Bool.false_eq_true] at hA
      subst hA
      have f47 : us 47 = .int .i64 0 := hF 47 (by simp)
      have f48 : us 48 = .int .i64 0 := hF 48 (by simp)
      have f12 : us 12 = .int .i64 0 := hF 12 (by simp)
      have f2 : (spBoxE W5.heap.size).p (us 11) V2 := hF 11 (by simp)
      clear hF he
      rw [f47]
      clear f47
      rw [f48]
      clear f48
      rw [f12]
      clear f12
      have hG9b : aP.tmps.getD 11 undef = us 11 := hG9
      obtain ⟨D, e9, hDn, _⟩ := f2
      rw [e9] at hG9b
      obtain ⟨cD, kD0, hrt⟩ := hG1 D hG9b
      rw [e9]
      clear e9 hG1 hG2 hG9 hG9b
      have hDn := Hd.mk hDn
      have kD := Hd.mk kD0
      obtain ⟨Ku, ku, rfl, _⟩ := hrt.row
      have hrm := Hd.mk hrt
      simp only [cT] at hrm kD
      clear kD0 hrt
      replace kx3 := Hd.mk (kx3.out.trans hxV2.out)
      replace kA3 := Hd.mk (kA3.out.ext hxV2.out)
      replace kB3 := Hd.mk (kB3.out.ext hxV2.out)
      replace kD5 := Hd.mk (kD5.out.ext hxV2.out)
      replace hr5 := Hd.mk (hr5.out.ext hxV2.out)
      have kx4 := Hd.mk (hxr.out.ext kx3.out)
      have ky4 := Hd.mk (hyr.out.ext kx3.out)
      replace hrm := Hd.mk (hrm.out.mono (S' := fun _ => True) fun _ _ _ => trivial)
      clear hxV2 hDn hr4 hP2 hI
      generalize V2 = W6 at *
      refine (show wpList _ _ _ (⟨some 13, .assign (.tmp 48), _, _, _, none⟩ :: _) _ _ from ?_)
      have gA := kA3.out.cell
      have gB := kB3.out.cell
      have gD := kD5.out.cell
      have gE := kD.out.cell
      go_wp2_with fail
      refine Calls.mono (hS1.out _ _ _ hr5.out ky4.out) ?_
      rintro e w7 ⟨rfl, hx⟩
      replace kx3 := Hd.mk (kx3.out.trans hx)
      replace kA3 := Hd.mk (kA3.out.ext hx)
      replace kD := Hd.mk (kD.out.ext hx)
      replace kx4 := Hd.mk (kx4.out.ext hx)
      replace hrm := Hd.mk (hrm.out.ext hx)
      clear hx gA gB gD gE
      have gA := kA3.out.cell
      have gE := kD.out.cell
      go_wp2_with fail
      refine Calls.mono (hS2.out _ _ _ hrm.out kx4.out) ?_
      rintro e w8 ⟨rfl, hx⟩
      replace kx3 := Hd.mk (kx3.out.trans hx)
      clear hx
      go_wp2_with fail
      go_ret
      exact ⟨rfl, kx3.out⟩
end Go.Proofs.Ytgkgedjmnbjalaa
set_option linter.unusedSimpArgs false
namespace Go.Proofs.Ytgkgedjmnbjalaa
open Go.RowKit Go.Sort
theorem ERow.take {S : Nat → Prop} {w : World} {A : Option Addr} {l : List E} {c : Nat} (h : ERow S w A l c) (k : Nat) : ERow S w A (l.take k) c :=
  ⟨by rw [List.length_take]; have := h.cap; omega, by rw [List.length_take]; have := h.len; omega, h.nul, fun i e hi => by
    rw [List.getElem?_take] at hi
    split at hi
    · exact h.edit i e hi
    · cases hi⟩
theorem ERow.drop {S : Nat → Prop} {w : World} {A : Option Addr} {l : List E} {c k : Nat} (h : ERow S w A l c) (hk : k ≤ l.length) : ERow S w (if c = k then A else A.map (·.add (k * 14))) (l.drop k) (c - k) := by
  have hc := h.cap
  refine ⟨by rw [List.length_drop]; omega, by rw [List.length_drop]; have := h.len; omega, fun hn => ?_, fun i e hi => ?_⟩
  · by_cases he : c = k
    · omega
    · rw [if_neg he] at hn
      have hA : A = none := by cases A with | none => rfl | some _ => cases hn
      have := h.nul hA
      omega
  · rw [List.getElem?_drop] at hi
    have hlt := (List.getElem?_eq_some_iff.1 hi).1
    obtain ⟨b, off, d, h1, h2, h3, h4⟩ := h.edit _ e hi
    rw [if_neg (by omega), h1]
    refine ⟨b, off + k * 14, d, ?_, h2, h3, fun j v hv => ?_⟩
    · simp only [Option.map_some, addr_add]
    · rw [← h4 j v hv]
      rw [show off + k * 14 + i * 14 + j = off + (k + i) * 14 + j by rw [Nat.add_mul]; omega]
theorem ERow.ext' {S : Nat → Prop} {w w' : World} {A : Option Addr} {l : List E} {c : Nat} (h : ERow S w A l c) (hx : Ext w w') : ERow S w' A l c := h.keep fun _ _ _ hb hc => ⟨hb, Ext.cell hx hc⟩
set_option maxRecDepth 100000 in
set_option maxHeartbeats 4000000 in
theorem fronts17_walk (a b : T) (w : World) (ca cb : List Value) (q : Nat) (hq : q < 256) (ha : RT (fun _ => True) w a ca) (hb : RT (fun _ => True) w b cb) (hsa : a.size ≤ 1048576) (hsb : b.size ≤ 1048576) :
    Calls Try.prog 13 #[.agg ca.toArray, .agg cb.toArray, .int .u8 (q : Int)] w fun e w' => e = .returned (.bool true) ∧ Ext w w' := by
  obtain ⟨K1, c1, rfl, ra⟩ := ha.row
  obtain ⟨K2, c2, rfl, rb⟩ := hb.row
  have hsm := Hd.mk (fun W (h : Ext w W) => law_small17 a b (fun _ => True) W _ _ (ha.ext h) (hb.ext h) hsa hsb)
  have hxr : RT (fun _ => True) w a [.string a.name, .string a.key, .int .i64 a.kind, .int .u64 a.num, .string a.text, .slice K1 a.kids.length c1] := ha
  have hyr : RT (fun _ => True) w (a.wk b.kids) [.string a.name, .string a.key, .int .i64 a.kind, .int .u64 a.num, .string a.text, .slice K2 b.kids.length c2] := RT.of_row (t := a.wk b.kids) rb
  replace hxr := Hd.mk hxr
  replace hyr := Hd.mk hyr
  clear ha hb ra rb hsa hsb
  simp only [cT] at hsm ⊢
  go_enter Try.func13, Try.ntmps13
  go_wp2_with fail
  have kx := Hd.mk ((Ext.alloc w (.cells #[.string a.name, .string a.key, .int .i64 a.kind, .int .u64 a.num, .string a.text, .slice K1 a.kids.length c1] 54)).trans (Ext.alloc _ (.cells #[.string b.name, .string b.key, .int .i64 b.kind, .int .u64 b.num, .string b.text, .slice K2 b.kids.length c2] 54)))
  have kA := Hd.mk ((Blk.new w #[.string a.name, .string a.key, .int .i64 a.kind, .int .u64 a.num, .string a.text, .slice K1 a.kids.length c1] 54).alloc (.cells #[.string b.name, .string b.key, .int .i64 b.kind, .int .u64 b.num, .string b.text, .slice K2 b.kids.length c2] 54))
  have kB := Hd.mk (Blk.new2 w (.cells #[.string a.name, .string a.key, .int .i64 a.kind, .int .u64 a.num, .string a.text, .slice K1 a.kids.length c1] 54) #[.string b.name, .string b.key, .int .i64 b.kind, .int .u64 b.num, .string b.text, .slice K2 b.kids.length c2] 54)
  generalize hpA : w.heap.size = pA at *
  replace hpA := Hd.mk hpA
  generalize (w.alloc _).alloc _ = W at *
  refine Calls.mono (awake17 _) ?_
  rintro e w1 ⟨rfl, hx⟩
  have kx1 := Hd.mk (kx.out.trans hx)
  have kA1 := Hd.mk (kA.out.ext hx)
  have kB1 := Hd.mk (kB.out.ext hx)
  clear hx kx kA kB
  have gA := kA1.out.cell
  have gB := kB1.out.cell
  go_wp2_with fail
  refine Calls.mono (hsm.out _ kx1.out) ?_
  rintro e w2 ⟨rfl, hx⟩
  have kx2 := Hd.mk (kx1.out.trans hx)
  have kA2 := Hd.mk (kA1.out.ext hx)
  have kB2 := Hd.mk (kB1.out.ext hx)
  clear hx kx1 kA1 kB1 gA gB hsm
  have gA := kA2.out.cell
  have gB := kB2.out.cell
  cases hb0 : smallB a b with
  | false =>
    go_wp2_with fail
    go_ret
    exact ⟨rfl, kx2.out⟩
  | true =>
    simp only [smallB, Bool.and_eq_true, decide_eq_true_eq] at hb0
    obtain ⟨s1, s2, s3, s4, s5, s6⟩ := hb0
    have hyk : (a.wk b.kids).kind = 0 := s3
    have hyR := wk_right s3 s4 s5 s6
    have hys : (a.wk b.kids).size ≤ 300 := by rw [wk_size]; rw [b.size_eq] at s2; exact s2
    have hst : stepT a = stepT (a.wk b.kids) := rfl
    have hsame : Hd (∀ q, q = a.wk b.kids → True) := ⟨fun _ _ => trivial⟩
    clear hsame
    clear s2 s4 s6
    generalize a.wk b.kids = y at *
    have hdY := Nat.le_trans y.deep_le hys
    have hdA := Nat.le_trans a.deep_le s1
    have hE1 := Hd.mk (fun W (h : Ext w W) => ref_edits (N := 300) hdA (hxr.out.ext h) (hyr.out.ext h) (by omega) (by omega))
    generalize hes : edits 300 a y [] = es at *
    have hklt : q % (es.length + 1) < es.length + 1 := Nat.mod_lt _ (by omega)
    obtain ⟨k, hkd⟩ : ∃ k, k = q % (es.length + 1) := ⟨_, rfl⟩
    rw [← hkd] at hklt
    obtain ⟨m, hm1, hm2, hm3, hm4, hm5, hm6⟩ := fronts_plain (N := 300) hdA hdY s3 hyk s5 hyR hst (k := k) (by rw [hes]; omega)
    rw [hes] at hm1 hm5 hm6
    obtain ⟨hgd, hln⟩ := edits_small (N := 300) (a := a) (b := y) s5 (fun z hz => (right_kid' hyR hz).2) s1 hys
    rw [hes] at hgd hln
    obtain ⟨hg1, hg2⟩ := drop_good hgd k
    have hl1 : (es.take k).length ≤ 600 := by rw [List.length_take]; omega
    have hl2 : (es.drop k).length ≤ 600 := by rw [List.length_drop]; omega
    have hz1 := good_sum hg1 hl1
    have hz2 := good_sum hg2 hl2
    have hzm := applyT_size hm1
    have hP1 := Hd.mk (fun W A c (hx : Ext w W) (he : ERow (fun _ => True) W A (es.take k) c) => (show Calls Try.prog 55 _ W (Ret (NewPost m [.int .i64 0, .int .i64 0] W)) from by have h := patch_apply a (es.take k) (fun _ => True) (fun _ => True) W _ A c (hxr.out.ext hx) he s5 (fun e he _ => (hg1 e he).1) (by omega); rw [hm1] at h; exact h))
    have hP2 := Hd.mk (fun W A c cy (hy : RT (fun _ => True) W m cy) (he : ERow (fun _ => True) W A (es.drop k) c) => (show Calls Try.prog 55 _ W (Ret (NewPost y [.int .i64 0, .int .i64 0] W)) from by have h := patch_apply m (es.drop k) (fun _ => True) (fun _ => True) W cy A c hy he hm2 (fun e he _ => (hg2 e he).1) (by omega); rw [hm6] at h; exact h))
    have hR := Hd.mk (fun W c (h1 : RT (fun _ => True) W m c) => ref_right 300 m (fun _ => True) W c hm4 h1)
    rw [hm2] at hR
    have hE2 := Hd.mk (fun W c d (h1 : RT (fun _ => True) W m c) (h2 : RT (fun _ => True) W y d) => ref_edits (N := 300) hm4 h1 h2 (by omega) (by omega))
    rw [hm5] at hE2
    have hS1 := Hd.mk (fun W c d (h1 : RT (fun _ => True) W y c) (h2 : RT (fun _ => True) W y d) => ref_same 300 y y (fun _ => True) W c d hdY h1 h2)
    rw [sameT_rfl] at hS1
    have hlen : es.length ≤ 600 := by omega
    have hkl : k ≤ es.length := by omega
    have hwr : IntKind.i64.wrap ((es.length : Int) + 1) = (es.length : Int) + 1 := by rw [IntKind.wrap_i64]; omega
    have hrm1 : (q : Int).tmod ((es.length : Int) + 1) = (k : Int) := by
      rw [hkd, show ((es.length : Int) + 1) = ((es.length + 1 : Nat) : Int) by omega, Int.tmod_eq_emod_of_nonneg (by omega)]
      exact (Int.natCast_emod _ _).symm
    clear hgd hln hg1 hg2 hl1 hl2 hz1 hz2 hzm hm1 hm2 hm3 hm4 hm5 hm6 hdY hdA s1 s3 s5 hyk hyR hys hst hes hklt hkd
    have gA := kA2.out.cell
    have gB := kB2.out.cell
    have fB := kB2.out.free
    have lA := kA2.out.lt
    have lB := kB2.out.lt
    go_wp2_with ((with_reducible refine stop_at (.load 54 (.tmp 3)) ?_))
    refine Stop.mk ?_
    generalize w2 = W2 at *
    have kA3 : Blk (((((W2.setCell ⟨pA + 1, 0, none⟩ (.string a.name)).setCell ⟨pA + 1, 1, none⟩ (.string a.key)).setCell ⟨pA + 1, 2, none⟩ (.int .i64 a.kind)).setCell ⟨pA + 1, 3, none⟩ (.int .u64 a.num)).setCell ⟨pA + 1, 4, none⟩ (.string a.text)) pA [.string a.name, .string a.key, .int .i64 a.kind, .int .u64 a.num, .string a.text, .slice K1 a.kids.length c1] 54 := (((((kA2.out.setCell_other (a := ⟨pA + 1, 0, none⟩) (by show pA ≠ pA + 1; omega) (.string a.name)).setCell_other (a := ⟨pA + 1, 1, none⟩) (by show pA ≠ pA + 1; omega) (.string a.key)).setCell_other (a := ⟨pA + 1, 2, none⟩) (by show pA ≠ pA + 1; omega) (.int .i64 a.kind)).setCell_other (a := ⟨pA + 1, 3, none⟩) (by show pA ≠ pA + 1; omega) (.int .u64 a.num)).setCell_other (a := ⟨pA + 1, 4, none⟩) (by show pA ≠ pA + 1; omega) (.string a.text))
    have kB3 : Blk (((((W2.setCell ⟨pA + 1, 0, none⟩ (.string a.name)).setCell ⟨pA + 1, 1, none⟩ (.string a.key)).setCell ⟨pA + 1, 2, none⟩ (.int .i64 a.kind)).setCell ⟨pA + 1, 3, none⟩ (.int .u64 a.num)).setCell ⟨pA + 1, 4, none⟩ (.string a.text)) (pA + 1) [.string a.name, .string a.key, .int .i64 a.kind, .int .u64 a.num, .string a.text, .slice K2 b.kids.length c2] 54 := (((((kB2.out.setCell 0 (.string a.name)).setCell 1 (.string a.key)).setCell 2 (.int .i64 a.kind)).setCell 3 (.int .u64 a.num)).setCell 4 (.string a.text))
    have kx3 : Ext w (((((W2.setCell ⟨pA + 1, 0, none⟩ (.string a.name)).setCell ⟨pA + 1, 1, none⟩ (.string a.key)).setCell ⟨pA + 1, 2, none⟩ (.int .i64 a.kind)).setCell ⟨pA + 1, 3, none⟩ (.int .u64 a.num)).setCell ⟨pA + 1, 4, none⟩ (.string a.text)) := (Below.trans (Below.trans (Below.trans (Below.trans (Below.trans kx2.out ((Upd.setCell _ ⟨pA + 1, 0, none⟩ (.string a.name)).below (by show w.heap.size ≤ pA + 1; have := hpA.out; omega))) ((Upd.setCell _ ⟨pA + 1, 1, none⟩ (.string a.key)).below (by show w.heap.size ≤ pA + 1; have := hpA.out; omega))) ((Upd.setCell _ ⟨pA + 1, 2, none⟩ (.int .i64 a.kind)).below (by show w.heap.size ≤ pA + 1; have := hpA.out; omega))) ((Upd.setCell _ ⟨pA + 1, 3, none⟩ (.int .u64 a.num)).below (by show w.heap.size ≤ pA + 1; have := hpA.out; omega))) ((Upd.setCell _ ⟨pA + 1, 4, none⟩ (.string a.text)).below (by show w.heap.size ≤ pA + 1; have := hpA.out; omega)))
    replace kA3 := Hd.mk kA3
    replace kB3 := Hd.mk kB3
    replace kx3 := Hd.mk kx3
    clear gA gB fB lA lB kA2 kB2 kx2
    generalize (((((W2.setCell ⟨pA + 1, 0, none⟩ (.string a.name)).setCell ⟨pA + 1, 1, none⟩ (.string a.key)).setCell ⟨pA + 1, 2, none⟩ (.int .i64 a.kind)).setCell ⟨pA + 1, 3, none⟩ (.int .u64 a.num)).setCell ⟨pA + 1, 4, none⟩ (.string a.text)) = W3 at *
    have gA := kA3.out.cell
    have gB := kB3.out.cell
    go_wp2_with fail
    refine Calls.mono (hE1.out _ kx3.out) ?_
    rintro e w4 ⟨_, rfl, A4, r4, rfl, hr4, hx⟩
    replace kx3 := Hd.mk (kx3.out.trans hx)
    replace kA3 := Hd.mk (kA3.out.ext hx)
    replace kB3 := Hd.mk (kB3.out.ext hx)
    replace hr4 := Hd.mk hr4
    clear hx gA gB
    have gA := kA3.out.cell
    have gB := kB3.out.cell
    have hq1 : IntKind.i64.wrap (q : Int) = (q : Int) := by rw [IntKind.wrap_i64]; omega
    have hk2 : ((es.length : Int) + 1 == 0) = false := by rw [beq_eq_false_iff_ne]; omega
    have hk3 : IntKind.i64.wrap (k : Int) = (k : Int) := by rw [IntKind.wrap_i64]; omega
    go_wp2_with fail
    have hcap4 := hr4.out.cap
    have hkr : k ≤ r4 := by omega
    have hkr2 : (k : Int) ≤ (r4 : Int) := by omega
    have hkr3 : (k : Int) ≤ (es.length : Int) := by omega
    have hkt := Hd.mk (show (es.take k).length = k by rw [List.length_take]; omega)
    have hkd2 := Hd.mk (show (es.drop k).length = es.length - k by rw [List.length_drop])
    have hkl2 := Hd.mk hkl
    have hr41 := Hd.mk (hr4.out.take k)
    have hr42 := Hd.mk (hr4.out.drop hkl2.out)
    generalize es.take k = es1 at *
    generalize es.drop k = es2 at *
    clear hE1
    clear hrm1 hk2 hq1 hwr gA gB
    refine FlowJ.wp_region_flow_l (x := 9) (tx := 11) (Y := [(4, 48), (5, 43), (6, 49)]) (J := JX m [.int .i64 0, .int .i64 0]) (G := GX 11 m) (gx_ext _ _) (R := Rb w4.heap.size) 10 (fun _ _ h => rb_ext h) (fun h k => rb_trans h k) (fun qq => match qq with
      | 44 => SP.eq (.agg #[.string a.name, .string a.key, .int .i64 a.kind, .int .u64 a.num, .string a.text, .slice K1 a.kids.length c1])
      | 45 => SP.eq (.slice A4 es.length r4)
      | 46 => SP.eq (.int .i64 (k : Nat))
      | 47 => spE es1
      | 48 => spTupX m [.int .i64 0, .int .i64 0]
      | 43 => spTupX m [.int .i64 0, .int .i64 0]
      | 49 => spAggX m
      | 50 => SP.eq (.int .i64 0)
      | 51 => SP.eq (.int .i64 0)
      | 11 => spBoxE w4.heap.size
      | 12 => SP.eq (.int .i64 0)
      | _ => SP.any) (FlowJ.over [(48, spFormX [.int .i64 0, .int .i64 0]), (43, spFormX [.int .i64 0, .int .i64 0]), (49, SP.any), (47, SP.any)] (fun qq => match qq with
      | 44 => SP.eq (.agg #[.string a.name, .string a.key, .int .i64 a.kind, .int .u64 a.num, .string a.text, .slice K1 a.kids.length c1])
      | 45 => SP.eq (.slice A4 es.length r4)
      | 46 => SP.eq (.int .i64 (k : Nat))
      | 47 => spE es1
      | 48 => spTupX m [.int .i64 0, .int .i64 0]
      | 43 => spTupX m [.int .i64 0, .int .i64 0]
      | 49 => spAggX m
      | 50 => SP.eq (.int .i64 0)
      | 51 => SP.eq (.int .i64 0)
      | 11 => spBoxE w4.heap.size
      | 12 => SP.eq (.int .i64 0)
      | _ => SP.any)) 12 (by kernel_rfl) 87 rfl (by kernel_rfl) (of_decide_eq_true (by kernel_rfl)) (by decide) (by kernel_rfl) ?_ ?_ ?_ ?_ ?_
    · refine ⟨by decide, rfl, by kernel_rfl, ?_, jx_mono _ _⟩
      intro q hq
      simp only [List.mem_cons, List.not_mem_nil, or_false] at hq
      rcases hq with rfl | rfl | rfl
      all_goals exact ⟨by decide, by decide, by decide, rfl, by kernel_rfl⟩
    · refine FlowJ.over_weak (fun q hq => ?_)
      simp only [List.mem_cons, List.not_mem_nil, or_false] at hq
      rcases hq with rfl | rfl | rfl | rfl
      · exact fun u v1 ⟨c, e, _⟩ => ⟨c, e⟩
      · exact fun u v1 ⟨c, e, _⟩ => ⟨c, e⟩
      · exact fun u v1 _ => trivial
      · exact fun u v1 _ => trivial
    · intro q hq u' v1 v2 hR
      by_cases q0 : q = 48
      · subst q0; exact fun ⟨c, e, _⟩ => ⟨c, e⟩
      by_cases q1 : q = 43
      · subst q1; exact fun ⟨c, e, _⟩ => ⟨c, e⟩
      by_cases q2 : q = 49
      · subst q2; exact fun _ => trivial
      by_cases q3 : q = 47
      · subst q3; exact fun _ => trivial
      rw [over_ne q0, over_ne q1, over_ne q2, over_ne q3]
      simp only [FlowJ.over]
      split
      all_goals first | exact fun h => h | exact absurd rfl q0 | exact absurd rfl q1 | exact absurd rfl q2 | exact absurd rfl q3 | exact fun ⟨D, e, h1, c, hb, hc⟩ => ⟨D, e, h1, hR.2.2 D c hb hc⟩
    · refine ⟨?_, ?_, ?_, ?_, ?_, ?_, ?_, ?_, ?_, ?_, ?_, ?_, trivial⟩
      · intro act W2 hk
        refine FlowJ.does_intro rfl (fun Kq hK => ?_)
        have e3 : act.tmps[3]?.getD undef = .pointer (some ⟨pA, 0, none⟩) := hk.o 3 (by kernel_rfl)
        have g := ((kA3.out).ext ((Ext.drew w4).trans (hk.early (.inr (by kernel_rfl))))).cell
        clear hk
        go_simp
        exact hK _ _ (Ext.refl _) (xt_no (by decide) (by decide) (by decide)) (fun d hd => by cases hd; first | rfl | (simp [SP.eq]; omega))
      · intro act W2 hk
        refine FlowJ.does_intro rfl (fun Kq hK => ?_)
        have e9 : act.tmps[9]?.getD undef = .slice A4 es.length r4 := hk.o 9 (by kernel_rfl)
        clear hk
        go_simp
        exact hK _ _ (Ext.refl _) (xt_no (by decide) (by decide) (by decide)) (fun d hd => by cases hd; first | rfl | (simp [SP.eq]; omega))
      · intro act W2 hk
        refine FlowJ.does_intro rfl (fun Kq hK => ?_)
        have e10 : act.tmps[10]?.getD undef = .int .i64 (k : Nat) := hk.o 10 (by kernel_rfl)
        clear hk
        go_simp
        exact hK _ _ (Ext.refl _) (xt_no (by decide) (by decide) (by decide)) (fun d hd => by cases hd; first | rfl | (simp [SP.eq]; omega))
      · intro act W2 hk
        refine FlowJ.does_intro rfl (fun Kq hK => ?_)
        have e45 : act.tmps[45]?.getD undef = .slice A4 es.length r4 := hk.ve 45 (by kernel_rfl) (by kernel_rfl)
        have e46 : act.tmps[46]?.getD undef = .int .i64 (k : Nat) := hk.ve 46 (by kernel_rfl) (by kernel_rfl)
        have hx0 := Hd.mk ((Ext.drew w4).trans (hk.early (.inr (by kernel_rfl))))
        clear hk
        go_simp
        exact hK _ _ (Ext.refl _) (xt_no (by decide) (by decide) (by decide)) (fun d hd => by cases hd; exact ⟨A4, r4, by rw [hkt.out], hr41.out.ext' hx0.out⟩)
      · intro act W2 hk
        refine FlowJ.does_intro rfl (fun Kq hK => ?_)
        have e44 : act.tmps[44]?.getD undef = .agg #[.string a.name, .string a.key, .int .i64 a.kind, .int .u64 a.num, .string a.text, .slice K1 a.kids.length c1] := hk.ve 44 (by kernel_rfl) (by kernel_rfl)
        obtain ⟨A9, r9, e47, hr8⟩ := (hk.ve 47 (by kernel_rfl) (by kernel_rfl) : (spE es1).p _ _)
        have hx0 := Hd.mk ((Ext.drew w4).trans (hk.early (.inr (by kernel_rfl))))
        clear hk
        go_simp
        refine Calls.mono (hP1.out _ A9 r9 (kx3.out.trans hx0.out) hr8) ?_
        rintro e W3 ⟨_, rfl, c9, rfl, hr9, hx⟩
        exact hK _ _ hx ⟨fun h => absurd h (by decide), fun h => absurd h (by decide), fun q hq h u hu _ => jx_call hr9 hu⟩ (fun d hd => by cases hd; exact ⟨c9, rfl, hr9.mono fun _ _ _ => trivial⟩)
      · intro act W2 hk
        refine FlowJ.does_intro rfl (fun Kq hK => ?_)
        obtain ⟨c9, e48, hr9⟩ := (hk.ve 48 (by kernel_rfl) (by kernel_rfl) : (spTupX m [.int .i64 0, .int .i64 0]).p _ _)
        clear hk
        go_simp
        refine hK _ _ (Ext.refl _) ⟨fun h => absurd h (by decide), fun h => absurd h (by decide), fun q hq h u hu hj => ?_⟩ (fun d hd => by cases hd; exact ⟨c9, rfl, hr9⟩)
        have h1 := hj (4, 48) (by simp) (by kernel_rfl)
        rw [Array.getD_eq_getD_getElem?] at h1
        rw [e48] at h1
        exact h1
      · intro act W2 hk
        refine FlowJ.does_intro rfl (fun Kq hK => ?_)
        obtain ⟨c9, e43, hr9⟩ := (hk.ve 43 (by kernel_rfl) (by kernel_rfl) : (spTupX m [.int .i64 0, .int .i64 0]).p _ _)
        clear hk
        go_simp
        refine hK _ _ (Ext.refl _) ⟨fun h => absurd h (by decide), fun h => absurd h (by decide), fun q hq h u hu hj => ?_⟩ (fun d hd => by cases hd; exact ⟨c9, rfl, hr9⟩)
        have h1 := hj (5, 43) (by simp) (by kernel_rfl)
        rw [Array.getD_eq_getD_getElem?] at h1
        rw [e43] at h1
        exact jx_take h1
      · intro act W2 hk
        refine FlowJ.does_intro rfl (fun Kq hK => ?_)
        obtain ⟨c9, e43⟩ := (hk.v 43 (by kernel_rfl) : (spFormX [.int .i64 0, .int .i64 0]).p _ _)
        clear hk
        go_simp
        exact hK _ _ (Ext.refl _) (xt_no (by decide) (by decide) (by decide)) (fun d hd => by cases hd; first | rfl | (simp [SP.eq]; omega))
      · intro act W2 hk
        refine FlowJ.does_intro rfl (fun Kq hK => ?_)
        obtain ⟨c9, e43⟩ := (hk.v 43 (by kernel_rfl) : (spFormX [.int .i64 0, .int .i64 0]).p _ _)
        clear hk
        go_simp
        exact hK _ _ (Ext.refl _) (xt_no (by decide) (by decide) (by decide)) (fun d hd => by cases hd; first | rfl | (simp [SP.eq]; omega))
      · intro act W2 hk
        refine FlowJ.does_intro rfl (fun Kq hK => ?_)
        have hx0 := Hd.mk ((Ext.drew w4).trans (hk.early (.inr (by kernel_rfl))))
        clear hk
        go_simp
        refine hK _ _ (Ext.alloc _ _) ⟨fun h => absurd h (by decide), fun h q hq u hu => ?_, fun q hq h => ?_⟩ (fun d hd => by cases hd; exact ⟨_, rfl, hx0.out.size, _, Blk.new _ _ _, rfl⟩)
        · simp only [List.mem_cons, List.not_mem_nil, or_false] at hq
          rcases hq with rfl | rfl | rfl
          · exact jx_alloc (.inl hu)
          · exact jx_alloc (.inl hu)
          · exact jx_alloc (.inr hu)
        · simp only [List.mem_cons, List.not_mem_nil, or_false] at hq
          rcases hq with rfl | rfl | rfl <;> cases h
      · intro act W2 hk
        refine FlowJ.does_intro rfl (fun Kq hK => ?_)
        obtain ⟨c9, e49, hr9⟩ := (hk.ve 49 (by kernel_rfl) (by kernel_rfl) : (spAggX m).p _ _)
        obtain ⟨D, e11, hDn, cD, hD, hc6⟩ := (hk.ve 11 (by kernel_rfl) (by kernel_rfl) : (spBoxE _).p _ _)
        have hrel := hk.rel rfl (6, 49) (by simp)
        simp only [Array.getD_eq_getD_getElem?] at hrel
        rw [e49, e11] at hrel
        have hrt := Hd.mk (hrel D c9 rfl (.inr rfl))
        clear hrel hk
        obtain ⟨Ku, ku, rfl, _⟩ := hr9.row
        simp only [cT] at hrt e49
        clear hr9
        obtain ⟨x0, x1, x2, x3, x4, x5, rfl⟩ : ∃ x0 x1 x2 x3 x4 x5, cD = [x0, x1, x2, x3, x4, x5] := by match cD, hc6 with | [a, b, c, d, e, f], _ => exact ⟨a, b, c, d, e, f, rfl⟩
        have kD := Hd.mk hD
        have eA := Hd.mk e11
        have gD := kD.out.cell
        have fD := kD.out.free
        clear hD
        go_simp
        have hu := ((((((Upd.setCell W2 ⟨D, 0, none⟩ (.string m.name)).trans (Upd.setCell _ ⟨D, 1, none⟩ (.string m.key))).trans (Upd.setCell _ ⟨D, 2, none⟩ (.int .i64 m.kind))).trans (Upd.setCell _ ⟨D, 3, none⟩ (.int .u64 m.num))).trans (Upd.setCell _ ⟨D, 4, none⟩ (.string m.text))).trans (Upd.setCell _ ⟨D, 5, none⟩ (.slice Ku m.kids.length ku)))
        have kDn := ((((((kD.out.setCell 0 (.string m.name)).setCell 1 (.string m.key)).setCell 2 (.int .i64 m.kind)).setCell 3 (.int .u64 m.num)).setCell 4 (.string m.text)).setCell 5 (.slice Ku m.kids.length ku))
        refine hK undef _ (rb_upd hDn hu ⟨_, kDn, rfl⟩) ⟨fun _ D2 hD2 => ?_, fun h => absurd h (by decide), fun q hq h => ?_⟩ (fun d hd => by cases hd)
        · have e9b := eA.out
          rw [Array.getD_eq_getD_getElem?] at hD2
          rw [e9b] at hD2
          cases hD2
          exact ⟨_, kDn, hrt.out.upd hu (fun h => h rfl)⟩
        · simp only [List.mem_cons, List.not_mem_nil, or_false] at hq
          rcases hq with rfl | rfl | rfl <;> cases h
      · intro act W2 hk
        refine FlowJ.does_intro rfl (fun Kq hK => ?_)
        have e50 : act.tmps[50]?.getD undef = .int .i64 0 := hk.v 50 (by kernel_rfl)
        clear hk
        go_simp
        exact hK _ _ (Ext.refl _) (xt_no (by decide) (by decide) (by decide)) (fun d hd => by cases hd; first | rfl | (simp [SP.eq]; omega))
    · intro act V2 he
      have hxV2 := Hd.mk (rb_below (rb_trans (rb_ext (Ext.drew w4)) he.ext))
      obtain ⟨aP, hG1, hG2⟩ := he.post
      have hG9 := hG2 11 (by kernel_rfl)
      obtain ⟨us, hA, hF⟩ := he.out [44, 45, 46, 47, 48, 43, 49, 50, 51, 11, 12] (by kernel_rfl)
      simp only [Flow.fillL, List.contains_cons, List.contains_nil, Nat.reduceBEq, Bool.or_false, Bool.false_or, Bool.or_true, Bool.true_or, ↓reduceIte, Nat.reduceAdd, Bool.false_eq_true] at hA
      subst hA
      have f50 : us 50 = .int .i64 0 := hF 50 (by simp)
      have f51 : us 51 = .int .i64 0 := hF 51 (by simp)
      have f12 : us 12 = .int .i64 0 := hF 12 (by simp)
      have f2 : (spBoxE w4.heap.size).p (us 11) V2 := hF 11 (by simp)
      clear hF he
      rw [f50]
      clear f50
      rw [f51]
      clear f51
      rw [f12]
      clear f12
      have hG9b : aP.tmps.getD 11 undef = us 11 := hG9
      obtain ⟨D, e9, hDn, _⟩ := f2
      rw [e9] at hG9b
      obtain ⟨cD, kD0, hrt⟩ := hG1 D hG9b
      rw [e9]
      clear e9 hG1 hG2 hG9 hG9b
      have hDn := Hd.mk hDn
      have kD := Hd.mk kD0
      obtain ⟨Ku, ku, rfl, _⟩ := hrt.row
      have hrm := Hd.mk hrt
      simp only [cT] at hrm kD
      clear kD0 hrt
      replace kx3 := Hd.mk (kx3.out.trans hxV2.out)
      replace kA3 := Hd.mk (kA3.out.ext hxV2.out)
      replace kB3 := Hd.mk (kB3.out.ext hxV2.out)
      replace hr42 := Hd.mk (hr42.out.ext' hxV2.out)
      replace hrm := Hd.mk (hrm.out.mono (S' := fun _ => True) fun _ _ _ => trivial)
      have kM := kD
      have hrM := hrm
      have hDM := hDn
      clear kD hrm hDn hxV2 hP1 hr41 hr4
      generalize D = pM at *
      generalize Ku = Kv at *
      generalize ku = kv at *
      generalize V2 = W5 at *
      refine (show wpList _ _ _ (⟨some 13, .assign (.tmp 51), _, _, _, none⟩ :: _) _ _ from ?_)
      go_wp2_with fail
      refine FlowJ.wp_region_flow_l (x := 9) (tx := 14) (Y := [(4, 57), (5, 52), (6, 58)]) (J := JX y [.int .i64 0, .int .i64 0]) (G := GX 14 y) (gx_ext _ _) (R := Rb W5.heap.size) 10 (fun _ _ h => rb_ext h) (fun h k => rb_trans h k) (fun qq => match qq with
        | 53 => SP.eq (.agg #[.string m.name, .string m.key, .int .i64 m.kind, .int .u64 m.num, .string m.text, .slice Kv m.kids.length kv])
        | 54 => SP.eq (.slice A4 es.length r4)
        | 55 => SP.eq (.int .i64 (k : Nat))
        | 56 => spE es2
        | 57 => spTupX y [.int .i64 0, .int .i64 0]
        | 52 => spTupX y [.int .i64 0, .int .i64 0]
        | 58 => spAggX y
        | 59 => SP.eq (.int .i64 0)
        | 60 => SP.eq (.int .i64 0)
        | 14 => spBoxE W5.heap.size
        | 15 => SP.eq (.int .i64 0)
        | _ => SP.any) (FlowJ.over [(57, spFormX [.int .i64 0, .int .i64 0]), (52, spFormX [.int .i64 0, .int .i64 0]), (58, SP.any), (56, SP.any)] (fun qq => match qq with
        | 53 => SP.eq (.agg #[.string m.name, .string m.key, .int .i64 m.kind, .int .u64 m.num, .string m.text, .slice Kv m.kids.length kv])
        | 54 => SP.eq (.slice A4 es.length r4)
        | 55 => SP.eq (.int .i64 (k : Nat))
        | 56 => spE es2
        | 57 => spTupX y [.int .i64 0, .int .i64 0]
        | 52 => spTupX y [.int .i64 0, .int .i64 0]
        | 58 => spAggX y
        | 59 => SP.eq (.int .i64 0)
        | 60 => SP.eq (.int .i64 0)
        | 14 => spBoxE W5.heap.size
        | 15 => SP.eq (.int .i64 0)
        | _ => SP.any)) 12 (by kernel_rfl) 87 rfl (by kernel_rfl) (of_decide_eq_true (by kernel_rfl)) (by decide) (by kernel_rfl) ?_ ?_ ?_ ?_ ?_
      · refine ⟨by decide, rfl, by kernel_rfl, ?_, jx_mono _ _⟩
        intro q hq
        simp only [List.mem_cons, List.not_mem_nil, or_false] at hq
        rcases hq with rfl | rfl | rfl
        all_goals exact ⟨by decide, by decide, by decide, rfl, by kernel_rfl⟩
      · refine FlowJ.over_weak (fun q hq => ?_)
        simp only [List.mem_cons, List.not_mem_nil, or_false] at hq
        rcases hq with rfl | rfl | rfl | rfl
        · exact fun u v1 ⟨c, e, _⟩ => ⟨c, e⟩
        · exact fun u v1 ⟨c, e, _⟩ => ⟨c, e⟩
        · exact fun u v1 _ => trivial
        · exact fun u v1 _ => trivial
      · intro q hq u' v1 v2 hR
        by_cases q0 : q = 57
        · subst q0; exact fun ⟨c, e, _⟩ => ⟨c, e⟩
        by_cases q1 : q = 52
        · subst q1; exact fun ⟨c, e, _⟩ => ⟨c, e⟩
        by_cases q2 : q = 58
        · subst q2; exact fun _ => trivial
        by_cases q3 : q = 56
        · subst q3; exact fun _ => trivial
        rw [over_ne q0, over_ne q1, over_ne q2, over_ne q3]
        simp only [FlowJ.over]
        split
        all_goals first | exact fun h => h | exact absurd rfl q0 | exact absurd rfl q1 | exact absurd rfl q2 | exact absurd rfl q3 | exact fun ⟨D, e, h1, c, hb, hc⟩ => ⟨D, e, h1, hR.2.2 D c hb hc⟩
      · refine ⟨?_, ?_, ?_, ?_, ?_, ?_, ?_, ?_, ?_, ?_, ?_, ?_, trivial⟩
        · intro act W2 hk
          refine FlowJ.does_intro rfl (fun Kq hK => ?_)
          have e11 : act.tmps[11]?.getD undef = .pointer (some ⟨pM, 0, none⟩) := hk.o 11 (by kernel_rfl)
          have g := ((kM.out).ext ((Ext.drew W5).trans (hk.early (.inr (by kernel_rfl))))).cell
          clear hk
          go_simp
          exact hK _ _ (Ext.refl _) (xt_no (by decide) (by decide) (by decide)) (fun d hd => by cases hd; first | rfl | (simp [SP.eq]; omega))
        · intro act W2 hk
          refine FlowJ.does_intro rfl (fun Kq hK => ?_)
          have e9 : act.tmps[9]?.getD undef = .slice A4 es.length r4 := hk.o 9 (by kernel_rfl)
          clear hk
          go_simp
          exact hK _ _ (Ext.refl _) (xt_no (by decide) (by decide) (by decide)) (fun d hd => by cases hd; first | rfl | (simp [SP.eq]; omega))
        · intro act W2 hk
          refine FlowJ.does_intro rfl (fun Kq hK => ?_)
          have e10 : act.tmps[10]?.getD undef = .int .i64 (k : Nat) := hk.o 10 (by kernel_rfl)
          clear hk
          go_simp
          exact hK _ _ (Ext.refl _) (xt_no (by decide) (by decide) (by decide)) (fun d hd => by cases hd; first | rfl | (simp [SP.eq]; omega))
        · intro act W2 hk
          refine FlowJ.does_intro rfl (fun Kq hK => ?_)
          have e54 : act.tmps[54]?.getD undef = .slice A4 es.length r4 := hk.ve 54 (by kernel_rfl) (by kernel_rfl)
          have e55 : act.tmps[55]?.getD undef = .int .i64 (k : Nat) := hk.ve 55 (by kernel_rfl) (by kernel_rfl)
          have hx0 := Hd.mk ((Ext.drew W5).trans (hk.early (.inr (by kernel_rfl))))
          clear hk
          go_simp
          exact hK _ _ (Ext.refl _) (xt_no (by decide) (by decide) (by decide)) (fun d hd => by cases hd; exact ⟨_, _, by rw [hkd2.out], hr42.out.ext' hx0.out⟩)
        · intro act W2 hk
          refine FlowJ.does_intro rfl (fun Kq hK => ?_)
          have e53 : act.tmps[53]?.getD undef = .agg #[.string m.name, .string m.key, .int .i64 m.kind, .int .u64 m.num, .string m.text, .slice Kv m.kids.length kv] := hk.ve 53 (by kernel_rfl) (by kernel_rfl)
          obtain ⟨A9, r9, e56, hr8⟩ := (hk.ve 56 (by kernel_rfl) (by kernel_rfl) : (spE es2).p _ _)
          have hx0 := Hd.mk ((Ext.drew W5).trans (hk.early (.inr (by kernel_rfl))))
          clear hk
          go_simp
          refine Calls.mono (hP2.out _ A9 r9 _ (hrM.out.ext hx0.out) hr8) ?_
          rintro e W3 ⟨_, rfl, c9, rfl, hr9, hx⟩
          exact hK _ _ hx ⟨fun h => absurd h (by decide), fun h => absurd h (by decide), fun q hq h u hu _ => jx_call hr9 hu⟩ (fun d hd => by cases hd; exact ⟨c9, rfl, hr9.mono fun _ _ _ => trivial⟩)
        · intro act W2 hk
          refine FlowJ.does_intro rfl (fun Kq hK => ?_)
          obtain ⟨c9, e57, hr9⟩ := (hk.ve 57 (by kernel_rfl) (by kernel_rfl) : (spTupX y [.int .i64 0, .int .i64 0]).p _ _)
          clear hk
          go_simp
          refine hK _ _ (Ext.refl _) ⟨fun h => absurd h (by decide), fun h => absurd h (by decide), fun q hq h u hu hj => ?_⟩ (fun d hd => by cases hd; exact ⟨c9, rfl, hr9⟩)
          have h1 := hj (4, 57) (by simp) (by kernel_rfl)
          rw [Array.getD_eq_getD_getElem?] at h1
          rw [e57] at h1
          exact h1
        · intro act W2 hk
          refine FlowJ.does_intro rfl (fun Kq hK => ?_)
          obtain ⟨c9, e52, hr9⟩ := (hk.ve 52 (by kernel_rfl) (by kernel_rfl) : (spTupX y [.int .i64 0, .int .i64 0]).p _ _)
          clear hk
          go_simp
          refine hK _ _ (Ext.refl _) ⟨fun h => absurd h (by decide), fun h => absurd h (by decide), fun q hq h u hu hj => ?_⟩ (fun d hd => by cases hd; exact ⟨c9, rfl, hr9⟩)
          have h1 := hj (5, 52) (by simp) (by kernel_rfl)
          rw [Array.getD_eq_getD_getElem?] at h1
          rw [e52] at h1
          exact jx_take h1
        · intro act W2 hk
          refine FlowJ.does_intro rfl (fun Kq hK => ?_)
          obtain ⟨c9, e52⟩ := (hk.v 52 (by kernel_rfl) : (spFormX [.int .i64 0, .int .i64 0]).p _ _)
          clear hk
          go_simp
          exact hK _ _ (Ext.refl _) (xt_no (by decide) (by decide) (by decide)) (fun d hd => by cases hd; first | rfl | (simp [SP.eq]; omega))
        · intro act W2 hk
          refine FlowJ.does_intro rfl (fun Kq hK => ?_)
          obtain ⟨c9, e52⟩ := (hk.v 52 (by kernel_rfl) : (spFormX [.int .i64 0, .int .i64 0]).p _ _)
          clear hk
          go_simp
          exact hK _ _ (Ext.refl _) (xt_no (by decide) (by decide) (by decide)) (fun d hd => by cases hd; first | rfl | (simp [SP.eq]; omega))
        · intro act W2 hk
          refine FlowJ.does_intro rfl (fun Kq hK => ?_)
          have hx0 := Hd.mk ((Ext.drew W5).trans (hk.early (.inr (by kernel_rfl))))
          clear hk
          go_simp
          refine hK _ _ (Ext.alloc _ _) ⟨fun h => absurd h (by decide), fun h q hq u hu => ?_, fun q hq h => ?_⟩ (fun d hd => by cases hd; exact ⟨_, rfl, hx0.out.size, _, Blk.new _ _ _, rfl⟩)
          · simp only [List.mem_cons, List.not_mem_nil, or_false] at hq
            rcases hq with rfl | rfl | rfl
            · exact jx_alloc (.inl hu)
            · exact jx_alloc (.inl hu)
            · exact jx_alloc (.inr hu)
          · simp only [List.mem_cons, List.not_mem_nil, or_false] at hq
            rcases hq with rfl | rfl | rfl <;> cases h
        · intro act W2 hk
          refine FlowJ.does_intro rfl (fun Kq hK => ?_)
          obtain ⟨c9, e58, hr9⟩ := (hk.ve 58 (by kernel_rfl) (by kernel_rfl) : (spAggX y).p _ _)
          obtain ⟨D, e14, hDn, cD, hD, hc6⟩ := (hk.ve 14 (by kernel_rfl) (by kernel_rfl) : (spBoxE _).p _ _)
          have hrel := hk.rel rfl (6, 58) (by simp)
          simp only [Array.getD_eq_getD_getElem?] at hrel
          rw [e58, e14] at hrel
          have hrt := Hd.mk (hrel D c9 rfl (.inr rfl))
          clear hrel hk
          obtain ⟨Ku, ku, rfl, _⟩ := hr9.row
          simp only [cT] at hrt e58
          clear hr9
          obtain ⟨x0, x1, x2, x3, x4, x5, rfl⟩ : ∃ x0 x1 x2 x3 x4 x5, cD = [x0, x1, x2, x3, x4, x5] := by match cD, hc6 with | [a, b, c, d, e, f], _ => exact ⟨a, b, c, d, e, f, rfl⟩
          have kD := Hd.mk hD
          have eA := Hd.mk e14
          have gD := kD.out.cell
          have fD := kD.out.free
          clear hD
          go_simp
          have hu := ((((((Upd.setCell W2 ⟨D, 0, none⟩ (.string y.name)).trans (Upd.setCell _ ⟨D, 1, none⟩ (.string y.key))).trans (Upd.setCell _ ⟨D, 2, none⟩ (.int .i64 y.kind))).trans (Upd.setCell _ ⟨D, 3, none⟩ (.int .u64 y.num))).trans (Upd.setCell _ ⟨D, 4, none⟩ (.string y.text))).trans (Upd.setCell _ ⟨D, 5, none⟩ (.slice Ku y.kids.length ku)))
          have kDn := ((((((kD.out.setCell 0 (.string y.name)).setCell 1 (.string y.key)).setCell 2 (.int .i64 y.kind)).setCell 3 (.int .u64 y.num)).setCell 4 (.string y.text)).setCell 5 (.slice Ku y.kids.length ku))
          refine hK undef _ (rb_upd hDn hu ⟨_, kDn, rfl⟩) ⟨fun _ D2 hD2 => ?_, fun h => absurd h (by decide), fun q hq h => ?_⟩ (fun d hd => by cases hd)
          · have e9b := eA.out
            rw [Array.getD_eq_getD_getElem?] at hD2
            rw [e9b] at hD2
            cases hD2
            exact ⟨_, kDn, hrt.out.upd hu (fun h => h rfl)⟩
          · simp only [List.mem_cons, List.not_mem_nil, or_false] at hq
            rcases hq with rfl | rfl | rfl <;> cases h
        · intro act W2 hk
          refine FlowJ.does_intro rfl (fun Kq hK => ?_)
          have e59 : act.tmps[59]?.getD undef = .int .i64 0 := hk.v 59 (by kernel_rfl)
          clear hk
          go_simp
          exact hK _ _ (Ext.refl _) (xt_no (by decide) (by decide) (by decide)) (fun d hd => by cases hd; first | rfl | (simp [SP.eq]; omega))
      · intro act V2 he
        have hxV2 := Hd.mk (rb_below (rb_trans (rb_ext (Ext.drew W5)) he.ext))
        obtain ⟨aP, hG1, hG2⟩ := he.post
        have hG9 := hG2 14 (by kernel_rfl)
        obtain ⟨us, hA, hF⟩ := he.out [53, 54, 55, 56, 57, 52, 58, 59, 60, 14, 15] (by kernel_rfl)
        simp only [Flow.fillL, List.contains_cons, List.contains_nil, Nat.reduceBEq, Bool.or_false, Bool.false_or, Bool.or_true, Bool.true_or, ↓reduceIte, Nat.reduceAdd, Bool.false_eq_true] at hA
        subst hA
        have f59 : us 59 = .int .i64 0 := hF 59 (by simp)
        have f60 : us 60 = .int .i64 0 := hF 60 (by simp)
        have f15 : us 15 = .int .i64 0 := hF 15 (by simp)
        have f2 : (spBoxE W5.heap.size).p (us 14) V2 := hF 14 (by simp)
        clear hF he
        rw [f59]
        clear f59
        rw [f60]
        clear f60
        rw [f15]
        clear f15
        have hG9b : aP.tmps.getD 14 undef = us 14 := hG9
        obtain ⟨D, e9, hDn, _⟩ := f2
        rw [e9] at hG9b
        obtain ⟨cD, kD0, hrt⟩ := hG1 D hG9b
        rw [e9]
        clear e9 hG1 hG2 hG9 hG9b
        have hDn := Hd.mk hDn
        have kD := Hd.mk kD0
        obtain ⟨Ku, ku, rfl, _⟩ := hrt.row
        have hrm := Hd.mk hrt
        simp only [cT] at hrm kD
        clear kD0 hrt
        replace kx3 := Hd.mk (kx3.out.trans hxV2.out)
        replace kA3 := Hd.mk (kA3.out.ext hxV2.out)
        replace kB3 := Hd.mk (kB3.out.ext hxV2.out)
        replace hr42 := Hd.mk (hr42.out.ext' hxV2.out)
        replace hrm := Hd.mk (hrm.out.mono (S' := fun _ => True) fun _ _ _ => trivial)
        replace kM := Hd.mk (kM.out.ext hxV2.out)
        replace hrM := Hd.mk (hrM.out.ext hxV2.out)
        have ky4 := Hd.mk (hyr.out.ext kx3.out)
        clear hxV2 hDn hDM hP2 hr42
        generalize V2 = W6 at *
        refine (show wpList _ _ _ (⟨some 16, .assign (.tmp 60), _, _, _, none⟩ :: _) _ _ from ?_)
        have gB := kB3.out.cell
        have gM := kM.out.cell
        have gE := kD.out.cell
        go_wp2_with fail
        refine Calls.mono (hR.out _ _ hrM.out) ?_
        rintro e w7 ⟨rfl, hx⟩
        replace kx3 := Hd.mk (kx3.out.trans hx)
        replace kB3 := Hd.mk (kB3.out.ext hx)
        replace kM := Hd.mk (kM.out.ext hx)
        replace hrM := Hd.mk (hrM.out.ext hx)
        replace kD := Hd.mk (kD.out.ext hx)
        replace hrm := Hd.mk (hrm.out.ext hx)
        replace ky4 := Hd.mk (ky4.out.ext hx)
        clear hx gB gM gE
        have gB := kB3.out.cell
        have gM := kM.out.cell
        have gE := kD.out.cell
        go_wp2_with fail
        refine Calls.mono (hS1.out _ _ _ hrm.out ky4.out) ?_
        rintro e w8 ⟨rfl, hx⟩
        replace kx3 := Hd.mk (kx3.out.trans hx)
        replace kB3 := Hd.mk (kB3.out.ext hx)
        replace kM := Hd.mk (kM.out.ext hx)
        replace hrM := Hd.mk (hrM.out.ext hx)
        replace kD := Hd.mk (kD.out.ext hx)
        replace hrm := Hd.mk (hrm.out.ext hx)
        replace ky4 := Hd.mk (ky4.out.ext hx)
        clear hx gB gM gE
        have gB := kB3.out.cell
        have gM := kM.out.cell
        have gE := kD.out.cell
        go_wp2_with fail
        refine Calls.mono (hE2.out _ _ _ hrM.out ky4.out) ?_
        rintro e w9 ⟨_, rfl, A9, r9, rfl, hr9, hx⟩
        replace kx3 := Hd.mk (kx3.out.trans hx)
        clear hx hr9
        have hd1 : es2.length = es.length - k := hkd2.out
        have hd2 : IntKind.i64.wrap ((es.length : Int) - (k : Int)) = ((es.length - k : Nat) : Int) := by rw [IntKind.wrap_i64]; omega
        go_wp2_with fail
        go_ret
        exact ⟨rfl, kx3.out⟩
end Go.Proofs.Ytgkgedjmnbjalaa
set_option linter.unusedSimpArgs false
namespace Go.Proofs.Ytgkgedjmnbjalaa
open Go.RowKit Go.Sort
set_option maxRecDepth 100000 in
set_option maxHeartbeats 4000000 in
theorem once17_walk (a b : T) (w : World) (ca cb : List Value) (ha : RT (fun _ => True) w a ca) (hb : RT (fun _ => True) w b cb) (hsa : a.size ≤ 1048576) (hsb : b.size ≤ 1048576) :
    Calls Try.prog 14 #[.agg ca.toArray, .agg cb.toArray] w fun e w' => e = .returned (.bool true) ∧ Ext w w' := by
  obtain ⟨K1, c1, rfl, ra⟩ := ha.row
  obtain ⟨K2, c2, rfl, rb⟩ := hb.row
  have hsm := Hd.mk (fun W (h : Ext w W) => law_small17 a b (fun _ => True) W _ _ (ha.ext h) (hb.ext h) hsa hsb)
  have hso := Hd.mk (fun W (h : Ext w W) => ref_sorted a.deep a (fun _ => True) W _ (Nat.le_refl _) hsa (ha.ext h))
  have hxr : RT (fun _ => True) w a [.string a.name, .string a.key, .int .i64 a.kind, .int .u64 a.num, .string a.text, .slice K1 a.kids.length c1] := ha
  have hyr : RT (fun _ => True) w b [.string b.name, .string b.key, .int .i64 b.kind, .int .u64 b.num, .string b.text, .slice K2 b.kids.length c2] := hb
  replace hxr := Hd.mk hxr
  replace hyr := Hd.mk hyr
  clear ha hb ra rb hsa hsb
  simp only [cT] at hsm hso ⊢
  go_enter Try.func14, Try.ntmps14
  go_wp2_with fail
  have kx := Hd.mk ((Ext.alloc w (.cells #[.string a.name, .string a.key, .int .i64 a.kind, .int .u64 a.num, .string a.text, .slice K1 a.kids.length c1] 54)).trans (Ext.alloc _ (.cells #[.string b.name, .string b.key, .int .i64 b.kind, .int .u64 b.num, .string b.text, .slice K2 b.kids.length c2] 54)))
  have kA := Hd.mk ((Blk.new w #[.string a.name, .string a.key, .int .i64 a.kind, .int .u64 a.num, .string a.text, .slice K1 a.kids.length c1] 54).alloc (.cells #[.string b.name, .string b.key, .int .i64 b.kind, .int .u64 b.num, .string b.text, .slice K2 b.kids.length c2] 54))
  have kB := Hd.mk (Blk.new2 w (.cells #[.string a.name, .string a.key, .int .i64 a.kind, .int .u64 a.num, .string a.text, .slice K1 a.kids.length c1] 54) #[.string b.name, .string b.key, .int .i64 b.kind, .int .u64 b.num, .string b.text, .slice K2 b.kids.length c2] 54)
  generalize w.heap.size = pA at *
  generalize (w.alloc _).alloc _ = W at *
  refine Calls.mono (awake17 _) ?_
  rintro e w1 ⟨rfl, hx⟩
  replace kx := Hd.mk (kx.out.trans hx)
  replace kA := Hd.mk (kA.out.ext hx)
  replace kB := Hd.mk (kB.out.ext hx)
  clear hx
  have gA := kA.out.cell
  have gB := kB.out.cell
  go_wp2_with fail
  refine Calls.mono (hsm.out _ kx.out) ?_
  rintro e w2 ⟨rfl, hx⟩
  replace kx := Hd.mk (kx.out.trans hx)
  replace kA := Hd.mk (kA.out.ext hx)
  replace kB := Hd.mk (kB.out.ext hx)
  clear hx gA gB hsm
  have gA := kA.out.cell
  have gB := kB.out.cell
  cases hb0 : smallB a b with
  | false =>
    go_wp2_with fail
    go_ret
    exact ⟨rfl, kx.out⟩
  | true =>
    simp only [smallB, Bool.and_eq_true, decide_eq_true_eq] at hb0
    obtain ⟨s1, s2, s3, s4, s5, s6⟩ := hb0
    have hdA := Nat.le_trans a.deep_le s1
    have hdB := Nat.le_trans b.deep_le s2
    have hE1 := Hd.mk (fun W (h : Ext w W) => ref_edits (N := 300) hdA (hxr.out.ext h) (hyr.out.ext h) (by omega) (by omega))
    obtain ⟨m, hm1, hm2, hm3⟩ := once_plain (N := 300) hdA hdB s3 s4 s5 s6
    obtain ⟨hgd, hln⟩ := edits_small (N := 300) (a := a) (b := b) s5 (fun z hz => (right_kid' s6 hz).2) s1 s2
    have hz1 := good_sum hgd hln
    have hzm := applyT_size hm1
    have hP1 := Hd.mk (fun W A c (hx : Ext w W) (he : ERow (fun _ => True) W A (edits 300 a b []) c) => (show Calls Try.prog 55 _ W (Ret (NewPost m [.int .i64 0, .int .i64 0] W)) from by have h := patch_apply a (edits 300 a b []) (fun _ => True) (fun _ => True) W _ A c (hxr.out.ext hx) he s5 (fun e he _ => (hgd e he).1) (by omega); rw [hm1] at h; exact h))
    have hO := Hd.mk (fun e (he : e ∈ edits 300 a b []) (r : Int) (hr : oneT m e = (zeroT, r)) W cm ce (h1 : RT (fun _ => True) W m cm) (h2 : RE (fun _ => True) W e ce) => Calls.mono (patchOne m e (fun _ => True) W cm ce h1 h2 hm2 (by have := (hgd e he).2.2.1; omega)) (show ∀ e' w'', Ret (ChgPost (oneT m e) W) e' w'' → Ret (NewPost zeroT [.int .i64 r] W) e' w'' from fun e' w'' ⟨v, h1, c, h2, h3, h4⟩ => by rw [hr] at h2 h3; exact ⟨v, h1, c, h2, h3.rt.mono fun b _ hb => hb.1, h4⟩))
    have hS1 := Hd.mk (fun W c d (h1 : RT (fun _ => True) W a c) (h2 : RT (fun _ => True) W a d) => ref_same 300 a a (fun _ => True) W c d hdA h1 h2)
    rw [sameT_rfl] at hS1
    rw [show SortPost a = fun w w' v => ∃ c : List Value, v = .agg c.toArray ∧ RT (fun b => w.heap.size ≤ b) w' a c ∧ Ext w w' from by funext w w' v; rw [SortPost, sortT_right a s5]] at hso
    replace hm3 := Hd.mk hm3
    clear hgd hz1 hzm hm1 hm2 hdA hdB s1 s2 s3 s4 s5 s6
    generalize edits 300 a b [] = es at *
    go_wp2_with fail
    refine Calls.mono (hE1.out _ kx.out) ?_
    rintro e w4 ⟨_, rfl, A4, r4, rfl, hr4, hx⟩
    replace kx := Hd.mk (kx.out.trans hx)
    replace kA := Hd.mk (kA.out.ext hx)
    replace hr4 := Hd.mk hr4
    clear hx gA gB kB hE1
    have gA := kA.out.cell
    go_wp2_with fail
    refine Calls.mono (hso.out _ kx.out) ?_
    rintro e w5 ⟨_, rfl, c5, rfl, hr5, hx⟩
    obtain ⟨Ks, ks, rfl, _⟩ := hr5.row
    replace hr5 := hr5.mono (S' := fun _ => True) fun _ _ _ => trivial
    simp only [cT] at hr5 ⊢
    have hxA := hx.trans (Ext.alloc w5 (.cells #[.string a.name, .string a.key, .int .i64 a.kind, .int .u64 a.num, .string a.text, .slice Ks a.kids.length ks] 54))
    have kS := Hd.mk (Blk.new w5 #[.string a.name, .string a.key, .int .i64 a.kind, .int .u64 a.num, .string a.text, .slice Ks a.kids.length ks] 54)
    replace hr5 := Hd.mk (hr5.ext (Ext.alloc w5 (.cells #[.string a.name, .string a.key, .int .i64 a.kind, .int .u64 a.num, .string a.text, .slice Ks a.kids.length ks] 54)))
    replace kx := Hd.mk (kx.out.trans hxA)
    replace kA := Hd.mk (kA.out.ext hxA)
    replace hr4 := Hd.mk (hr4.out.ext' hxA)
    clear hx hxA gA hso
    have gA := kA.out.cell
    go_wp2_with fail
    generalize w5.heap.size = pS at *
    generalize w5.alloc _ = W5 at *
    refine Calls.mono (hP1.out _ A4 r4 kx.out hr4.out) ?_
    rintro e w6 ⟨_, rfl, c6, rfl, hr6, hx⟩
    obtain ⟨Kv, kv, rfl, _⟩ := hr6.row
    replace hr6 := hr6.mono (S' := fun _ => True) fun _ _ _ => trivial
    simp only [cT] at hr6 ⊢
    have hxA := hx.trans (Ext.alloc w6 (.cells #[.string m.name, .string m.key, .int .i64 m.kind, .int .u64 m.num, .string m.text, .slice Kv m.kids.length kv] 54))
    have kM := Hd.mk (Blk.new w6 #[.string m.name, .string m.key, .int .i64 m.kind, .int .u64 m.num, .string m.text, .slice Kv m.kids.length kv] 54)
    replace hr6 := Hd.mk (hr6.ext (Ext.alloc w6 (.cells #[.string m.name, .string m.key, .int .i64 m.kind, .int .u64 m.num, .string m.text, .slice Kv m.kids.length kv] 54)))
    replace kx := Hd.mk (kx.out.trans hxA)
    replace kA := Hd.mk (kA.out.ext hxA)
    replace kS := Hd.mk (kS.out.ext hxA)
    replace hr5 := Hd.mk (hr5.out.ext hxA)
    replace hr4 := Hd.mk (hr4.out.ext' hxA)
    clear hx hxA gA hP1
    have gA := kA.out.cell
    have gS := kS.out.cell
    go_wp2_with fail
    generalize w6.heap.size = pM at *
    generalize w6.alloc _ = W6 at *
    have kx4 := hxr.out.ext kx.out
    refine Calls.mono (hS1.out _ _ _ hr5.out kx4) ?_
    rintro e w7 ⟨rfl, hx⟩
    replace kx := Hd.mk (kx.out.trans hx)
    replace kM := Hd.mk (kM.out.ext hx)
    replace hr6 := Hd.mk (hr6.out.ext hx)
    replace hr4 := Hd.mk (hr4.out.ext' hx)
    clear hx gA gS kA kS hr5 kx4 hxr hyr hS1
    by_cases hz : es.length = 0
    · have hz1 : ((es.length : Int) == 0) = true := by rw [hz]; rfl
      go_wp2_with fail
      go_ret
      exact ⟨rfl, kx.out⟩
    · have hz1 : ((es.length : Int) == 0) = false := by rw [beq_eq_false_iff_ne]; omega
      go_wp2_with fail
      obtain ⟨j, hj⟩ : ∃ j, es.length = j + 1 := ⟨es.length - 1, by omega⟩
      have hlt : j < es.length := by omega
      have he1 := List.getElem?_eq_getElem hlt
      have hmem := List.getElem_mem hlt
      generalize es[j] = e at he1 hmem
      obtain ⟨hk3, hag⟩ := hm3.out j e hj he1
      obtain ⟨b1, o1, ck, rfl, _, hrE, hck⟩ := hr4.out.edit j e he1
      generalize hd9 : againT e.kind = r9 at *
      have hOe := Hd.mk (hO.out e hmem r9 hag)
      obtain ⟨A1, a1, K3, k3, L3, l3, hce, _⟩ := id hrE
      subst hce
      simp only [cT, List.cons_append, List.nil_append] at hck hrE
      have kEd := Hd.mk (fun (q : Nat) u hq => Ext.cell (Ext.refl w7) (hck q u hq))
      replace hrE := Hd.mk hrE
      have hw9 : IntKind.i64.wrap ((es.length : Int) - 1) = (j : Int) := by rw [IntKind.wrap_i64]; omega
      have hlt0 : (j : Int) < (es.length : Int) := by omega
      replace hk3 := Hd.mk hk3
      replace hd9 := Hd.mk hd9
      clear hck he1 hmem hag hO hm3 hj hlt hz
      refine FlowJ.wp_region_flow_l (x := 11) (tx := 12) (Y := [(7, 53), (8, 45), (9, 54)]) (J := JX zeroT [.int .i64 r9]) (G := GX 12 zeroT) (gx_ext _ _) (R := Rb w7.heap.size) 12 (fun _ _ h => rb_ext h) (fun h k => rb_trans h k) (fun qq => match qq with
        | 46 => SP.eq (.agg #[.string m.name, .string m.key, .int .i64 m.kind, .int .u64 m.num, .string m.text, .slice Kv m.kids.length kv])
        | 47 => SP.eq (.slice (some ⟨b1, o1, none⟩) es.length r4)
        | 48 => SP.eq (.slice (some ⟨b1, o1, none⟩) es.length r4)
        | 49 => SP.eq (.int .i64 (es.length : Nat))
        | 50 => SP.eq (.int .i64 (j : Nat))
        | 51 => SP.eq (.pointer (some ⟨b1, o1 + j * 14, none⟩))
        | 52 => SP.eq (.agg #[.int .i64 e.kind, .slice A1 e.way.length a1, .string e.node.name, .string e.node.key, .int .i64 e.node.kind, .int .u64 e.node.num, .string e.node.text, .slice K3 e.node.kids.length k3, .string e.old.name, .string e.old.key, .int .i64 e.old.kind, .int .u64 e.old.num, .string e.old.text, .slice L3 e.old.kids.length l3])
        | 53 => spTupX zeroT [.int .i64 r9]
        | 45 => spTupX zeroT [.int .i64 r9]
        | 54 => spAggX zeroT
        | 55 => SP.eq (.int .i64 r9)
        | 12 => spBoxE w7.heap.size
        | _ => SP.any) (FlowJ.over [(53, spFormX [.int .i64 r9]), (45, spFormX [.int .i64 r9]), (54, SP.any)] (fun qq => match qq with
        | 46 => SP.eq (.agg #[.string m.name, .string m.key, .int .i64 m.kind, .int .u64 m.num, .string m.text, .slice Kv m.kids.length kv])
        | 47 => SP.eq (.slice (some ⟨b1, o1, none⟩) es.length r4)
        | 48 => SP.eq (.slice (some ⟨b1, o1, none⟩) es.length r4)
        | 49 => SP.eq (.int .i64 (es.length : Nat))
        | 50 => SP.eq (.int .i64 (j : Nat))
        | 51 => SP.eq (.pointer (some ⟨b1, o1 + j * 14, none⟩))
        | 52 => SP.eq (.agg #[.int .i64 e.kind, .slice A1 e.way.length a1, .string e.node.name, .string e.node.key, .int .i64 e.node.kind, .int .u64 e.node.num, .string e.node.text, .slice K3 e.node.kids.length k3, .string e.old.name, .string e.old.key, .int .i64 e.old.kind, .int .u64 e.old.num, .string e.old.text, .slice L3 e.old.kids.length l3])
        | 53 => spTupX zeroT [.int .i64 r9]
        | 45 => spTupX zeroT [.int .i64 r9]
        | 54 => spAggX zeroT
        | 55 => SP.eq (.int .i64 r9)
        | 12 => spBoxE w7.heap.size
        | _ => SP.any)) 13 (by kernel_rfl) 73 rfl (by kernel_rfl) (of_decide_eq_true (by kernel_rfl)) (by decide) (by kernel_rfl) ?_ ?_ ?_ ?_ ?_
      · refine ⟨by decide, rfl, by kernel_rfl, ?_, jx_mono _ _⟩
        intro q hq
        simp only [List.mem_cons, List.not_mem_nil, or_false] at hq
        rcases hq with rfl | rfl | rfl
        all_goals exact ⟨by decide, by decide, by decide, rfl, by kernel_rfl⟩
      · refine FlowJ.over_weak (fun q hq => ?_)
        simp only [List.mem_cons, List.not_mem_nil, or_false] at hq
        rcases hq with rfl | rfl | rfl
        · exact fun u v1 ⟨c, e, _⟩ => ⟨c, e⟩
        · exact fun u v1 ⟨c, e, _⟩ => ⟨c, e⟩
        · exact fun u v1 _ => trivial
      · intro q hq u' v1 v2 hR
        by_cases q0 : q = 53
        · subst q0; exact fun ⟨c, e, _⟩ => ⟨c, e⟩
        by_cases q1 : q = 45
        · subst q1; exact fun ⟨c, e, _⟩ => ⟨c, e⟩
        by_cases q2 : q = 54
        · subst q2; exact fun _ => trivial
        rw [over_ne q0, over_ne q1, over_ne q2]
        simp only [FlowJ.over]
        split
        all_goals first | exact fun h => h | exact absurd rfl q0 | exact absurd rfl q1 | exact absurd rfl q2 | exact fun ⟨D, e, h1, c, hb, hc⟩ => ⟨D, e, h1, hR.2.2 D c hb hc⟩
      · refine ⟨?_, ?_, ?_, ?_, ?_, ?_, ?_, ?_, ?_, ?_, ?_, ?_, ?_, trivial⟩
        · intro act W2 hk
          refine FlowJ.does_intro rfl (fun Kq hK => ?_)
          have e9 : act.tmps[9]?.getD undef = .pointer (some ⟨pM, 0, none⟩) := hk.o 9 (by kernel_rfl)
          have g := ((kM.out).ext ((Ext.drew w7).trans (hk.early (.inr (by kernel_rfl))))).cell
          clear hk
          go_simp
          exact hK _ _ (Ext.refl _) (xt_no (by decide) (by decide) (by decide)) (fun d hd => by cases hd; first | rfl | (simp [SP.eq]; omega))
        · intro act W2 hk
          refine FlowJ.does_intro rfl (fun Kq hK => ?_)
          have e7 : act.tmps[7]?.getD undef = .slice (some ⟨b1, o1, none⟩) es.length r4 := hk.o 7 (by kernel_rfl)
          clear hk
          go_simp
          exact hK _ _ (Ext.refl _) (xt_no (by decide) (by decide) (by decide)) (fun d hd => by cases hd; first | rfl | (simp [SP.eq]; omega))
        · intro act W2 hk
          refine FlowJ.does_intro rfl (fun Kq hK => ?_)
          have e7 : act.tmps[7]?.getD undef = .slice (some ⟨b1, o1, none⟩) es.length r4 := hk.o 7 (by kernel_rfl)
          clear hk
          go_simp
          exact hK _ _ (Ext.refl _) (xt_no (by decide) (by decide) (by decide)) (fun d hd => by cases hd; first | rfl | (simp [SP.eq]; omega))
        · intro act W2 hk
          refine FlowJ.does_intro rfl (fun Kq hK => ?_)
          have e48 : act.tmps[48]?.getD undef = .slice (some ⟨b1, o1, none⟩) es.length r4 := hk.ve 48 (by kernel_rfl) (by kernel_rfl)
          clear hk
          go_simp
          exact hK _ _ (Ext.refl _) (xt_no (by decide) (by decide) (by decide)) (fun d hd => by cases hd; first | rfl | (simp [SP.eq]; omega))
        · intro act W2 hk
          refine FlowJ.does_intro rfl (fun Kq hK => ?_)
          have e49 : act.tmps[49]?.getD undef = .int .i64 (es.length : Nat) := hk.ve 49 (by kernel_rfl) (by kernel_rfl)
          clear hk
          go_simp
          exact hK _ _ (Ext.refl _) (xt_no (by decide) (by decide) (by decide)) (fun d hd => by cases hd; first | rfl | (simp [SP.eq]; omega))
        · intro act W2 hk
          refine FlowJ.does_intro rfl (fun Kq hK => ?_)
          have e47 : act.tmps[47]?.getD undef = .slice (some ⟨b1, o1, none⟩) es.length r4 := hk.ve 47 (by kernel_rfl) (by kernel_rfl)
          have e50 : act.tmps[50]?.getD undef = .int .i64 (j : Nat) := hk.ve 50 (by kernel_rfl) (by kernel_rfl)
          clear hk
          go_simp
          exact hK _ _ (Ext.refl _) (xt_no (by decide) (by decide) (by decide)) (fun d hd => by cases hd; first | rfl | (simp [SP.eq]; omega))
        · intro act W2 hk
          refine FlowJ.does_intro rfl (fun Kq hK => ?_)
          have e51 : act.tmps[51]?.getD undef = .pointer (some ⟨b1, o1 + j * 14, none⟩) := hk.ve 51 (by kernel_rfl) (by kernel_rfl)
          obtain ⟨g0, g1, g2, g3, g4, g5, g6, g7, g8, g9, g10, g11, g12, g13⟩ := c14C (((Ext.drew w7).trans (hk.early (.inr (by kernel_rfl))))) kEd.out
          clear hk
          go_simp
          exact hK _ _ (Ext.refl _) (xt_no (by decide) (by decide) (by decide)) (fun d hd => by cases hd; first | rfl | (simp [SP.eq]; omega))
        · intro act W2 hk
          refine FlowJ.does_intro rfl (fun Kq hK => ?_)
          have e46 : act.tmps[46]?.getD undef = .agg #[.string m.name, .string m.key, .int .i64 m.kind, .int .u64 m.num, .string m.text, .slice Kv m.kids.length kv] := hk.ve 46 (by kernel_rfl) (by kernel_rfl)
          have e52 : act.tmps[52]?.getD undef = .agg #[.int .i64 e.kind, .slice A1 e.way.length a1, .string e.node.name, .string e.node.key, .int .i64 e.node.kind, .int .u64 e.node.num, .string e.node.text, .slice K3 e.node.kids.length k3, .string e.old.name, .string e.old.key, .int .i64 e.old.kind, .int .u64 e.old.num, .string e.old.text, .slice L3 e.old.kids.length l3] := hk.ve 52 (by kernel_rfl) (by kernel_rfl)
          have hx0 := Hd.mk ((Ext.drew w7).trans (hk.early (.inr (by kernel_rfl))))
          clear hk
          go_simp
          refine Calls.mono (hOe.out _ _ _ (hr6.out.ext hx0.out) (hrE.out.ext hx0.out)) ?_
          rintro e9 W3 ⟨_, rfl, c9, rfl, hr9, hx⟩
          exact hK _ _ hx ⟨fun h => absurd h (by decide), fun h => absurd h (by decide), fun q hq h u hu _ => jx_call hr9 hu⟩ (fun d hd => by cases hd; exact ⟨c9, rfl, hr9.mono fun _ _ _ => trivial⟩)
        · intro act W2 hk
          refine FlowJ.does_intro rfl (fun Kq hK => ?_)
          obtain ⟨c9, e53, hr9⟩ := (hk.ve 53 (by kernel_rfl) (by kernel_rfl) : (spTupX zeroT [.int .i64 r9]).p _ _)
          clear hk
          go_simp
          refine hK _ _ (Ext.refl _) ⟨fun h => absurd h (by decide), fun h => absurd h (by decide), fun q hq h u hu hj => ?_⟩ (fun d hd => by cases hd; exact ⟨c9, rfl, hr9⟩)
          have h1 := hj (7, 53) (by simp) (by kernel_rfl)
          rw [Array.getD_eq_getD_getElem?] at h1
          rw [e53] at h1
          exact h1
        · intro act W2 hk
          refine FlowJ.does_intro rfl (fun Kq hK => ?_)
          obtain ⟨c9, e45, hr9⟩ := (hk.ve 45 (by kernel_rfl) (by kernel_rfl) : (spTupX zeroT [.int .i64 r9]).p _ _)
          clear hk
          go_simp
          refine hK _ _ (Ext.refl _) ⟨fun h => absurd h (by decide), fun h => absurd h (by decide), fun q hq h u hu hj => ?_⟩ (fun d hd => by cases hd; exact ⟨c9, rfl, hr9⟩)
          have h1 := hj (8, 45) (by simp) (by kernel_rfl)
          rw [Array.getD_eq_getD_getElem?] at h1
          rw [e45] at h1
          exact jx_take h1
        · intro act W2 hk
          refine FlowJ.does_intro rfl (fun Kq hK => ?_)
          obtain ⟨c9, e45⟩ := (hk.v 45 (by kernel_rfl) : (spFormX [.int .i64 r9]).p _ _)
          clear hk
          go_simp
          exact hK _ _ (Ext.refl _) (xt_no (by decide) (by decide) (by decide)) (fun d hd => by cases hd; first | rfl | (simp [SP.eq]; omega))
        · intro act W2 hk
          refine FlowJ.does_intro rfl (fun Kq hK => ?_)
          have hx0 := Hd.mk ((Ext.drew w7).trans (hk.early (.inr (by kernel_rfl))))
          clear hk
          go_simp
          refine hK _ _ (Ext.alloc _ _) ⟨fun h => absurd h (by decide), fun h q hq u hu => ?_, fun q hq h => ?_⟩ (fun d hd => by cases hd; exact ⟨_, rfl, hx0.out.size, _, Blk.new _ _ _, rfl⟩)
          · simp only [List.mem_cons, List.not_mem_nil, or_false] at hq
            rcases hq with rfl | rfl | rfl
            · exact jx_alloc (.inl hu)
            · exact jx_alloc (.inl hu)
            · exact jx_alloc (.inr hu)
          · simp only [List.mem_cons, List.not_mem_nil, or_false] at hq
            rcases hq with rfl | rfl | rfl <;> cases h
        · intro act W2 hk
          refine FlowJ.does_intro rfl (fun Kq hK => ?_)
          obtain ⟨c9, e54, hr9⟩ := (hk.ve 54 (by kernel_rfl) (by kernel_rfl) : (spAggX zeroT).p _ _)
          obtain ⟨D, e12, hDn, cD, hD, hc6⟩ := (hk.ve 12 (by kernel_rfl) (by kernel_rfl) : (spBoxE _).p _ _)
          have hrel := hk.rel rfl (9, 54) (by simp)
          simp only [Array.getD_eq_getD_getElem?] at hrel
          rw [e54, e12] at hrel
          have hrt := Hd.mk (hrel D c9 rfl (.inr rfl))
          clear hrel hk
          obtain ⟨Ku, ku, rfl, _⟩ := hr9.row
          simp only [cT] at hrt e54
          clear hr9
          obtain ⟨x0, x1, x2, x3, x4, x5, rfl⟩ : ∃ x0 x1 x2 x3 x4 x5, cD = [x0, x1, x2, x3, x4, x5] := by match cD, hc6 with | [a, b, c, d, e, f], _ => exact ⟨a, b, c, d, e, f, rfl⟩
          have kD := Hd.mk hD
          have eA := Hd.mk e12
          have gD := kD.out.cell
          have fD := kD.out.free
          clear hD
          go_simp
          have hu := ((((((Upd.setCell W2 ⟨D, 0, none⟩ (.string zeroT.name)).trans (Upd.setCell _ ⟨D, 1, none⟩ (.string zeroT.key))).trans (Upd.setCell _ ⟨D, 2, none⟩ (.int .i64 zeroT.kind))).trans (Upd.setCell _ ⟨D, 3, none⟩ (.int .u64 zeroT.num))).trans (Upd.setCell _ ⟨D, 4, none⟩ (.string zeroT.text))).trans (Upd.setCell _ ⟨D, 5, none⟩ (.slice Ku zeroT.kids.length ku)))
          have kDn := ((((((kD.out.setCell 0 (.string zeroT.name)).setCell 1 (.string zeroT.key)).setCell 2 (.int .i64 zeroT.kind)).setCell 3 (.int .u64 zeroT.num)).setCell 4 (.string zeroT.text)).setCell 5 (.slice Ku zeroT.kids.length ku))
          refine hK undef _ (rb_upd hDn hu ⟨_, kDn, rfl⟩) ⟨fun _ D2 hD2 => ?_, fun h => absurd h (by decide), fun q hq h => ?_⟩ (fun d hd => by cases hd)
          · have e9b := eA.out
            rw [Array.getD_eq_getD_getElem?] at hD2
            rw [e9b] at hD2
            cases hD2
            exact ⟨_, kDn, hrt.out.upd hu (fun h => h rfl)⟩
          · simp only [List.mem_cons, List.not_mem_nil, or_false] at hq
            rcases hq with rfl | rfl | rfl <;> cases h
      · intro act V2 he
        have hxV2 := Hd.mk (rb_below (rb_trans (rb_ext (Ext.drew w7)) he.ext))
        obtain ⟨aP, hG1, hG2⟩ := he.post
        have hG9 := hG2 12 (by kernel_rfl)
        obtain ⟨us, hA, hF⟩ := he.out [46, 47, 48, 49, 50, 51, 52, 53, 45, 54, 55, 12] (by kernel_rfl)
        simp only [Flow.fillL, List.contains_cons, List.contains_nil, Nat.reduceBEq, Bool.or_false, Bool.false_or, Bool.or_true, Bool.true_or, ↓reduceIte, Nat.reduceAdd, Bool.false_eq_true] at hA
        subst hA
        have f55 : us 55 = .int .i64 r9 := hF 55 (by simp)
        have f2 : (spBoxE w7.heap.size).p (us 12) V2 := hF 12 (by simp)
        clear hF he
        rw [f55]
        clear f55
        have hG9b : aP.tmps.getD 12 undef = us 12 := hG9
        obtain ⟨D, e9, hDn, _⟩ := f2
        rw [e9] at hG9b
        obtain ⟨cD, kD0, hrt⟩ := hG1 D hG9b
        rw [e9]
        clear e9 hG1 hG2 hG9 hG9b
        have hDn := Hd.mk hDn
        have kD := Hd.mk kD0
        obtain ⟨Ku, ku, rfl, _⟩ := hrt.row
        have hrm := Hd.mk hrt
        simp only [cT] at hrm kD
        clear kD0 hrt
        replace kx := Hd.mk (kx.out.trans hxV2.out)
        have gE := kEd.out
        have g0 := Ext.cell hxV2.out (gE 0 _ rfl)
        rw [Nat.add_zero] at g0
        clear hxV2 hDn kM hr6 hr4 hOe kEd hrE gE hrm kD
        generalize V2 = W8 at *
        refine (show wpList _ _ _ (⟨some 13, .assign (.tmp 55), _, _, _, none⟩ :: _) _ _ from ?_)
        have hk5 := hk3.out
        have hd5 := hd9.out
        clear hk3 hd9
        rcases hk5 with hk5 | hk5 | hk5
        · obtain rfl : r9 = 24 := by rw [← hd5, hk5]; rfl
          clear hd5
          rw [hk5] at g0
          go_wp2_with fail
          go_ret
          exact ⟨rfl, kx.out⟩
        · obtain rfl : r9 = 30 := by rw [← hd5, hk5]; rfl
          clear hd5
          rw [hk5] at g0
          go_wp2_with fail
          go_ret
          exact ⟨rfl, kx.out⟩
        · obtain rfl : r9 = 23 := by rw [← hd5, hk5]; rfl
          clear hd5
          rw [hk5] at g0
          go_wp2_with fail
          go_ret
          exact ⟨rfl, kx.out⟩
end Go.Proofs.Ytgkgedjmnbjalaa

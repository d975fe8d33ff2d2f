/- DiffBack: the walk.
   Conditions: none. -/
import Derived.Test.YtgkgedjmnbjalaaUA
import Derived.Test.YtgkgedjmnbjalaaUC
import Derived.Test.YtgkgedjmnbjalaaUG
set_option linter.unusedSimpArgs false
namespace Go.Proofs.Ytgkgedjmnbjalaa
open Go.RowKit Go.Sort

/-- A tree, its own name and value struck. -/
def bareT (a : T) : T := .mk ⟨#[]⟩ ⟨#[]⟩ 0 0 ⟨#[]⟩ a.kids
theorem bareT_size (a : T) : (bareT a).size = a.size := by rw [T.size_eq, a.size_eq]; rfl
theorem bareT_deep (a : T) : (bareT a).deep = a.deep := by rw [T.deep_eq, a.deep_eq]; rfl

set_option maxRecDepth 100000 in
set_option maxHeartbeats 4000000 in
theorem back16_walk (a b : T) (w : World) (ca cb : List Value) (ha : RT (fun _ => True) w a ca) (hb : RT (fun _ => True) w b cb) (hsa : a.size ≤ 1048576) (hsb : b.size ≤ 1048576) :
    Calls Try.prog 9 #[.agg ca.toArray, .agg cb.toArray] w fun e w' => e = .returned (.bool true) ∧ Ext w w' := by
  obtain ⟨K1, c1, rfl, ra⟩ := ha.row
  obtain ⟨K2, c2, rfl, rb⟩ := hb.row
  have hsm := Hd.mk (fun W (h : Ext w W) => law_small a b _ W _ _ (ha.ext h) (hb.ext h) hsa hsb)
  have hxr : RT (fun _ => True) w (bareT a) [.string ⟨#[]⟩, .string ⟨#[]⟩, .int .i64 0, .int .u64 0, .string ⟨#[]⟩, .slice K1 a.kids.length c1] := RT.of_row (t := bareT a) ra
  have hyr : RT (fun _ => True) w (bareT b) [.string ⟨#[]⟩, .string ⟨#[]⟩, .int .i64 0, .int .u64 0, .string ⟨#[]⟩, .slice K2 b.kids.length c2] := RT.of_row (t := bareT b) rb
  obtain ⟨N, hN1, hN2⟩ : ∃ N, a.deep ≤ N ∧ b.deep ≤ N := ⟨a.deep + b.deep, by omega, by omega⟩
  have hE1 := Hd.mk (fun (hz : a.size ≤ 300 ∧ b.size ≤ 300) W (h : Ext w W) => diff_edits (N := N) (by rw [bareT_deep]; exact hN1) (hxr.ext h) (hyr.ext h) (by rw [bareT_deep]; have := a.deep_le; omega) (by rw [bareT_size, bareT_size]; omega))
  have hE2 := Hd.mk (fun (hz : a.size ≤ 300 ∧ b.size ≤ 300) W (h : Ext w W) => diff_edits (N := N) (by rw [bareT_deep]; exact hN2) (hyr.ext h) (hxr.ext h) (by rw [bareT_deep]; have := b.deep_le; omega) (by rw [bareT_size, bareT_size]; omega))
  have hE3 := Hd.mk (fun (hz : a.size ≤ 300 ∧ b.size ≤ 300) W (h : Ext w W) => diff_edits (N := N) (by rw [bareT_deep]; exact hN1) (hxr.ext h) (hxr.ext h) (by rw [bareT_deep]; have := a.deep_le; omega) (by rw [bareT_size]; omega))
  have hS := Hd.mk (fun W (h : Ext w W) => ref_same N (bareT a) (bareT b) _ W _ _ (by rw [bareT_deep]; exact hN1) (hxr.ext h) (hyr.ext h))
  have hback := Hd.mk (edits_back N (bareT a) (bareT b) [] [])
  have hfit := Hd.mk (inverse_back (edits N (bareT a) (bareT b) []) (edits_fit _ _ _ _))
  have hnil : a.kind = 0 → b.kind = 0 → rightT a = true → rightT b = true → sameT (bareT a) (bareT b) = decide ((edits N (bareT a) (bareT b) []).length = 0) := fun h1 h2 h3 h4 => by
    have h5 := edits_nil N (bareT a) (bareT b) [] (by rw [bareT_deep]; exact hN1) (right_kid (right_zero h3 h1).2.2) (right_kid (right_zero h4 h2).2.2)
    by_cases h6 : a.kids = b.kids
    · rw [h5.2 h6, show bareT a = bareT b by unfold bareT; rw [h6], sameT_rfl]; rfl
    · have h7 : edits N (bareT a) (bareT b) [] ≠ [] := fun h => h6 (h5.1 h)
      rw [decide_eq_false (fun h => h7 (List.eq_nil_of_length_eq_zero h))]
      cases hs : sameT (bareT a) (bareT b) with
      | false => rfl
      | true => exact absurd (congrArg T.kids (sameT_iff.1 hs)) h6
  replace hnil := Hd.mk hnil
  rw [edits_self] at hE3
  clear ha hb ra rb hxr hyr
  simp only [cT] at hsm ⊢
  generalize edits N (bareT b) (bareT a) [] = es2 at *
  generalize edits N (bareT a) (bareT b) [] = es at *
  generalize sameT (bareT a) (bareT b) = sb at *
  go_enter Try.func9, Try.ntmps9
  go_wp2_with fail
  have kx := Hd.mk ((Ext.alloc w (.cells #[.string a.name, .string a.key, .int .i64 a.kind, .int .u64 a.num, .string a.text, .slice K1 a.kids.length c1] 54)).trans (Ext.alloc _ (.cells #[.string b.name, .string b.key, .int .i64 b.kind, .int .u64 b.num, .string b.text, .slice K2 b.kids.length c2] 54)))
  have kA := Hd.mk ((Blk.new w #[.string a.name, .string a.key, .int .i64 a.kind, .int .u64 a.num, .string a.text, .slice K1 a.kids.length c1] 54).alloc (.cells #[.string b.name, .string b.key, .int .i64 b.kind, .int .u64 b.num, .string b.text, .slice K2 b.kids.length c2] 54))
  have kB := Hd.mk (Blk.new2 w (.cells #[.string a.name, .string a.key, .int .i64 a.kind, .int .u64 a.num, .string a.text, .slice K1 a.kids.length c1] 54) #[.string b.name, .string b.key, .int .i64 b.kind, .int .u64 b.num, .string b.text, .slice K2 b.kids.length c2] 54)
  generalize hpA : w.heap.size = pA at *
  replace hpA := Hd.mk hpA
  generalize (w.alloc _).alloc _ = W at *
  refine Calls.mono (awake16 _) ?_
  rintro e w1 ⟨rfl, hx⟩
  have kx1 := Hd.mk (kx.out.trans hx)
  have kA1 := Hd.mk (kA.out.ext hx)
  have kB1 := Hd.mk (kB.out.ext hx)
  clear hx kx kA kB
  have gA := kA1.out.cell
  have gB := kB1.out.cell
  go_wp2_with fail
  refine Calls.mono (hsm.out _ kx1.out) ?_
  rintro e w2 ⟨rfl, hx⟩
  have kx2 := Hd.mk (kx1.out.trans hx)
  have kA2 := Hd.mk (kA1.out.ext hx)
  have kB2 := Hd.mk (kB1.out.ext hx)
  clear hx kx1 kA1 kB1 gA gB hsm
  have gA := kA2.out.cell
  have gB := kB2.out.cell
  cases hb0 : smallB a b with
  | false =>
    go_wp2_with fail
    go_ret
    exact ⟨rfl, kx2.out⟩
  | true =>
    simp only [smallB, Bool.and_eq_true, decide_eq_true_eq] at hb0
    obtain ⟨s1, s2, s3, s4, s5, s6⟩ := hb0
    have hsb := Hd.mk (hnil.out s3 s4 s5 s6)
    have hz : a.size ≤ 300 ∧ b.size ≤ 300 := ⟨s1, s2⟩
    replace hz := Hd.mk hz
    clear hnil s1 s2 s3 s4 s5 s6
    have lA := kA2.out.lt
    have lB := kB2.out.lt
    go_wp2_with ((with_reducible refine stop_at (.fieldAddr 54 (.tmp 7) 0) ?_))
    refine Stop.mk ?_
    have kC := Hd.mk ((Blk.new w2 #[.string a.name, .string a.key, .int .i64 a.kind, .int .u64 a.num, .string a.text, .slice K1 a.kids.length c1] 54).alloc (.cells #[.string b.name, .string b.key, .int .i64 b.kind, .int .u64 b.num, .string b.text, .slice K2 b.kids.length c2] 54))
    have kD := Hd.mk (Blk.new2 w2 (.cells #[.string a.name, .string a.key, .int .i64 a.kind, .int .u64 a.num, .string a.text, .slice K1 a.kids.length c1] 54) #[.string b.name, .string b.key, .int .i64 b.kind, .int .u64 b.num, .string b.text, .slice K2 b.kids.length c2] 54)
    have kx3 := Hd.mk (kx2.out.trans ((Ext.alloc w2 (.cells #[.string a.name, .string a.key, .int .i64 a.kind, .int .u64 a.num, .string a.text, .slice K1 a.kids.length c1] 54)).trans (Ext.alloc _ (.cells #[.string b.name, .string b.key, .int .i64 b.kind, .int .u64 b.num, .string b.text, .slice K2 b.kids.length c2] 54))))
    have hpC := kx2.out.size
    clear kx2 kA2 kB2 gA gB lA lB
    replace kx2 := kx3
    clear kx3
    generalize w2.heap.size = pC at *
    generalize (w2.alloc _).alloc _ = W2 at *
    have gC := kC.out.cell
    have gD := kD.out.cell
    have fC := kC.out.free
    have fD := kD.out.free
    have lC := kC.out.lt
    have lD := kD.out.lt
    go_wp2_with ((with_reducible refine stop_at (.load 54 (.tmp 7)) ?_))
    refine Stop.mk ?_
    have kC3 : Blk ((((((((((W2.setCell ⟨pC, 0, none⟩ (.string ⟨#[]⟩)).setCell ⟨pC + 1, 0, none⟩ (.string ⟨#[]⟩)).setCell ⟨pC, 1, none⟩ (.string ⟨#[]⟩)).setCell ⟨pC + 1, 1, none⟩ (.string ⟨#[]⟩)).setCell ⟨pC, 2, none⟩ (.int .i64 0)).setCell ⟨pC, 3, none⟩ (.int .u64 0)).setCell ⟨pC, 4, none⟩ (.string ⟨#[]⟩)).setCell ⟨pC + 1, 2, none⟩ (.int .i64 0)).setCell ⟨pC + 1, 3, none⟩ (.int .u64 0)).setCell ⟨pC + 1, 4, none⟩ (.string ⟨#[]⟩)) pC [.string ⟨#[]⟩, .string ⟨#[]⟩, .int .i64 0, .int .u64 0, .string ⟨#[]⟩, .slice K1 a.kids.length c1] 54 := ((((((((((kC.out.setCell 0 (.string ⟨#[]⟩)).setCell_other (a := ⟨pC + 1, 0, none⟩) (by show pC ≠ pC + 1; omega) (.string ⟨#[]⟩)).setCell 1 (.string ⟨#[]⟩)).setCell_other (a := ⟨pC + 1, 1, none⟩) (by show pC ≠ pC + 1; omega) (.string ⟨#[]⟩)).setCell 2 (.int .i64 0)).setCell 3 (.int .u64 0)).setCell 4 (.string ⟨#[]⟩)).setCell_other (a := ⟨pC + 1, 2, none⟩) (by show pC ≠ pC + 1; omega) (.int .i64 0)).setCell_other (a := ⟨pC + 1, 3, none⟩) (by show pC ≠ pC + 1; omega) (.int .u64 0)).setCell_other (a := ⟨pC + 1, 4, none⟩) (by show pC ≠ pC + 1; omega) (.string ⟨#[]⟩))
    have kD3 : Blk ((((((((((W2.setCell ⟨pC, 0, none⟩ (.string ⟨#[]⟩)).setCell ⟨pC + 1, 0, none⟩ (.string ⟨#[]⟩)).setCell ⟨pC, 1, none⟩ (.string ⟨#[]⟩)).setCell ⟨pC + 1, 1, none⟩ (.string ⟨#[]⟩)).setCell ⟨pC, 2, none⟩ (.int .i64 0)).setCell ⟨pC, 3, none⟩ (.int .u64 0)).setCell ⟨pC, 4, none⟩ (.string ⟨#[]⟩)).setCell ⟨pC + 1, 2, none⟩ (.int .i64 0)).setCell ⟨pC + 1, 3, none⟩ (.int .u64 0)).setCell ⟨pC + 1, 4, none⟩ (.string ⟨#[]⟩)) (pC + 1) [.string ⟨#[]⟩, .string ⟨#[]⟩, .int .i64 0, .int .u64 0, .string ⟨#[]⟩, .slice K2 b.kids.length c2] 54 := ((((((((((kD.out.setCell_other (a := ⟨pC, 0, none⟩) (by show pC + 1 ≠ pC; omega) (.string ⟨#[]⟩)).setCell 0 (.string ⟨#[]⟩)).setCell_other (a := ⟨pC, 1, none⟩) (by show pC + 1 ≠ pC; omega) (.string ⟨#[]⟩)).setCell 1 (.string ⟨#[]⟩)).setCell_other (a := ⟨pC, 2, none⟩) (by show pC + 1 ≠ pC; omega) (.int .i64 0)).setCell_other (a := ⟨pC, 3, none⟩) (by show pC + 1 ≠ pC; omega) (.int .u64 0)).setCell_other (a := ⟨pC, 4, none⟩) (by show pC + 1 ≠ pC; omega) (.string ⟨#[]⟩)).setCell 2 (.int .i64 0)).setCell 3 (.int .u64 0)).setCell 4 (.string ⟨#[]⟩))
    have kx3 : Ext w ((((((((((W2.setCell ⟨pC, 0, none⟩ (.string ⟨#[]⟩)).setCell ⟨pC + 1, 0, none⟩ (.string ⟨#[]⟩)).setCell ⟨pC, 1, none⟩ (.string ⟨#[]⟩)).setCell ⟨pC + 1, 1, none⟩ (.string ⟨#[]⟩)).setCell ⟨pC, 2, none⟩ (.int .i64 0)).setCell ⟨pC, 3, none⟩ (.int .u64 0)).setCell ⟨pC, 4, none⟩ (.string ⟨#[]⟩)).setCell ⟨pC + 1, 2, none⟩ (.int .i64 0)).setCell ⟨pC + 1, 3, none⟩ (.int .u64 0)).setCell ⟨pC + 1, 4, none⟩ (.string ⟨#[]⟩)) := (Below.trans (Below.trans (Below.trans (Below.trans (Below.trans (Below.trans (Below.trans (Below.trans (Below.trans (Below.trans kx2.out ((Upd.setCell _ ⟨pC, 0, none⟩ (.string ⟨#[]⟩)).below (by show w.heap.size ≤ pC; omega))) ((Upd.setCell _ ⟨pC + 1, 0, none⟩ (.string ⟨#[]⟩)).below (by show w.heap.size ≤ pC + 1; omega))) ((Upd.setCell _ ⟨pC, 1, none⟩ (.string ⟨#[]⟩)).below (by show w.heap.size ≤ pC; omega))) ((Upd.setCell _ ⟨pC + 1, 1, none⟩ (.string ⟨#[]⟩)).below (by show w.heap.size ≤ pC + 1; omega))) ((Upd.setCell _ ⟨pC, 2, none⟩ (.int .i64 0)).below (by show w.heap.size ≤ pC; omega))) ((Upd.setCell _ ⟨pC, 3, none⟩ (.int .u64 0)).below (by show w.heap.size ≤ pC; omega))) ((Upd.setCell _ ⟨pC, 4, none⟩ (.string ⟨#[]⟩)).below (by show w.heap.size ≤ pC; omega))) ((Upd.setCell _ ⟨pC + 1, 2, none⟩ (.int .i64 0)).below (by show w.heap.size ≤ pC + 1; omega))) ((Upd.setCell _ ⟨pC + 1, 3, none⟩ (.int .u64 0)).below (by show w.heap.size ≤ pC + 1; omega))) ((Upd.setCell _ ⟨pC + 1, 4, none⟩ (.string ⟨#[]⟩)).below (by show w.heap.size ≤ pC + 1; omega)))
    replace kC3 := Hd.mk kC3
    replace kD3 := Hd.mk kD3
    replace kx3 := Hd.mk kx3
    clear gC gD fC fD lC lD kC kD kx2 hpC
    generalize ((((((((((W2.setCell ⟨pC, 0, none⟩ (.string ⟨#[]⟩)).setCell ⟨pC + 1, 0, none⟩ (.string ⟨#[]⟩)).setCell ⟨pC, 1, none⟩ (.string ⟨#[]⟩)).setCell ⟨pC + 1, 1, none⟩ (.string ⟨#[]⟩)).setCell ⟨pC, 2, none⟩ (.int .i64 0)).setCell ⟨pC, 3, none⟩ (.int .u64 0)).setCell ⟨pC, 4, none⟩ (.string ⟨#[]⟩)).setCell ⟨pC + 1, 2, none⟩ (.int .i64 0)).setCell ⟨pC + 1, 3, none⟩ (.int .u64 0)).setCell ⟨pC + 1, 4, none⟩ (.string ⟨#[]⟩)) = W3 at *
    have gC := kC3.out.cell
    have gD := kD3.out.cell
    go_wp2_with fail
    refine Calls.mono (hE1.out hz.out _ kx3.out) ?_
    rintro e w4 ⟨_, rfl, A4, r4, rfl, hr4, hx⟩
    have kx4 := Hd.mk (kx3.out.trans hx)
    have kC4 := Hd.mk (kC3.out.ext hx)
    have kD4 := Hd.mk (kD3.out.ext hx)
    replace hr4 := Hd.mk hr4
    clear hx kx3 kC3 kD3 gC gD hE1
    have gC := kC4.out.cell
    have gD := kD4.out.cell
    go_wp2_with fail
    refine Calls.mono (hE2.out hz.out _ kx4.out) ?_
    rintro e w5 ⟨_, rfl, A5, r5, rfl, hr5, hx⟩
    have kx5 := Hd.mk (kx4.out.trans hx)
    have kC5 := Hd.mk (kC4.out.ext hx)
    have kD5 := Hd.mk (kD4.out.ext hx)
    replace hr4 := Hd.mk (hr4.out.ext hx)
    have hl4 := hr4.out.len
    clear hx kx4 kC4 kD4 gC gD hE2 hr5
    rw [← hback.out]
    go_wp2_with fail
    refine Calls.mono (diff_inverse es _ _ _ _ hr4.out) ?_
    rintro e w6 ⟨_, rfl, A6, r6, rfl, hr6, hx⟩
    have kx6 := Hd.mk (kx5.out.trans hx)
    have kC6 := Hd.mk (kC5.out.ext hx)
    have kD6 := Hd.mk (kD5.out.ext hx)
    replace hr4 := Hd.mk (hr4.out.ext hx)
    replace hr6 := Hd.mk hr6
    clear hx kx5 kC5 kD5
    go_wp2_with fail
    refine Calls.mono (diff_inverse _ _ _ _ _ hr6.out) ?_
    rintro e w7 ⟨_, rfl, A7, r7, rfl, hr7, hx⟩
    rw [hfit.out] at hr7 ⊢
    have kx7 := Hd.mk (kx6.out.trans hx)
    have kC7 := Hd.mk (kC6.out.ext hx)
    have kD7 := Hd.mk (kD6.out.ext hx)
    have hcs := ref_sameEL es es _ w7 A7 A4 r7 r4 hr7 (hr4.out.ext hx)
    rw [sameEL_refl] at hcs
    replace hcs := Hd.mk hcs
    clear hx kx6 kC6 kD6 hr4 hr6 hr7
    go_wp2_with fail
    refine Calls.mono hcs.out ?_
    rintro e w8 ⟨rfl, hx⟩
    have kx8 := Hd.mk (kx7.out.trans hx)
    have kC8 := Hd.mk (kC7.out.ext hx)
    have kD8 := Hd.mk (kD7.out.ext hx)
    clear hx kx7 kC7 kD7 hcs
    have gC := kC8.out.cell
    go_wp2_with fail
    refine Calls.mono (hE3.out hz.out _ kx8.out) ?_
    rintro e w9 ⟨_, rfl, A9, r9, rfl, hr9, hx⟩
    have kx9 := Hd.mk (kx8.out.trans hx)
    have kC9 := Hd.mk (kC8.out.ext hx)
    have kD9 := Hd.mk (kD8.out.ext hx)
    clear hx kx8 kC8 kD8 gC hr9
    have gC := kC9.out.cell
    have gD := kD9.out.cell
    simp only [List.length_nil]
    go_wp2_with fail
    refine Calls.mono (hS.out _ kx9.out) ?_
    rintro e w10 ⟨rfl, hx⟩
    have kx10 := Hd.mk (kx9.out.trans hx)
    clear hx kx9 kC9 kD9 gC gD hS
    rw [hsb.out]
    clear hback hfit hsb
    generalize es.length = n at *
    by_cases h0 : n = 0
    · subst h0
      rw [decide_eq_true rfl]
      go_wp2_with fail
      go_ret
      exact ⟨rfl, kx10.out⟩
    · rw [decide_eq_false h0]
      have h0' : ((n : Int) == 0) = false := by rw [beq_eq_false_iff_ne]; omega
      clear h0
      go_wp2_with fail
      go_ret
      exact ⟨rfl, kx10.out⟩
end Go.Proofs.Ytgkgedjmnbjalaa

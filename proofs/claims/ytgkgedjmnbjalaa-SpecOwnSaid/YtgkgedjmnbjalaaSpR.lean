/- The document's table of chapter 7 (tollbarref07): num, class, Root.
   Conditions: none. -/
import Derived.Test.YtgkgedjmnbjalaaSpG
set_option linter.unusedSimpArgs false
namespace Go.Proofs.Ytgkgedjmnbjalaa
open Go.RowKit Go.Sort

theorem rf_num (nm : ByteArray) (ty lo hi : Int) (w : World) : Calls Try.prog 88 #[.string nm, .int .i64 ty, .int .u64 lo, .int .u64 hi] w fun e w' =>
    e = .returned (.agg #[.string nm, .int .i64 1, .int .i64 ty, .int .u64 lo, .int .u64 hi, .slice none 0 0, .bool true, .int .i64 0, .slice none 0 0]) ∧ Ext w w' := by
  go_enter Try.func88, Try.ntmps88
  go_wp2_with fail
  exact ret_box rfl w.heap.size _ 33 _ (Blk.new _ _ _) rfl rfl Try.underlying33 rfl size33 ⟨rfl, Ext.alloc _ _⟩

/-- A new row is told. -/
def RowPost (E : TypeId) (css : List (List Value)) (w w' : World) (v : Value) : Prop := ∃ g cap sp, v = .slice (some ⟨g, 0, none⟩) css.length cap ∧ w.heap.size ≤ g ∧ Blk w' g (css.flatten ++ sp) E ∧ css.length ≤ cap ∧ cap ≤ maxLen ∧ (css.flatten ++ sp).length = cap * 9 ∧ Ext w w'

theorem rowPost_own {E : TypeId} {css : List (List Value)} {w w' : World} {v : Value} {n : Nat} {xs : List Value} (h : w'.ownsRow w.heap.size E 9 v n xs) (hn : css.length = n) (h0 : 0 < css.length) (hx : css.flatten = xs) (hb : Ext w w') : RowPost E css w w' v := by
  subst hn hx
  obtain ⟨g, cap, sp, rfl, h1, h2, h3, h4, h5⟩ := own_form h h0
  exact ⟨g, cap, sp, rfl, h1, h2, h3, h4, h5, hb⟩

set_option maxHeartbeats 1000000 in
theorem rf_class1 (w : World) : Calls Try.prog 89 #[.int .i64 1] w (Ret (RowPost 33 [cLeaf nQuantum 1 1500 100000 true, cLeaf nRate 2 0 1000000 true, cLeaf nBurst 1 1500 1000000 true, cLeaf nLimit 1 1 64 true] w)) := by
  go_enter Try.func89, Try.ntmps89
  go_wp2_with fail
  refine (rf_num _ _ _ _ _).mono ?_
  rintro e w1 ⟨rfl, hx1⟩
  go_wp2_with fail
  refine (rf_num _ _ _ _ _).mono ?_
  rintro e w2 ⟨rfl, hx2⟩
  go_wp2_with fail
  refine (rf_num _ _ _ _ _).mono ?_
  rintro e w3 ⟨rfl, hx3⟩
  have hx := Hd.mk ((hx1.trans hx2).trans hx3)
  clear hx1 hx2 hx3
  go_wp2_with fail
  have hown := Hd.mk (own_new (w := w3) (base := w.heap.size) (e := 33) (sz := 9) (n := 3) (cs := (cLeaf nQuantum 1 1500 100000 true ++ cLeaf nRate 2 0 1000000 true ++ cLeaf nBurst 1 1500 1000000 true).toArray) hx.out.size (by simp [maxLen]) rfl)
  have hg := Hd.mk hx.out.size
  replace hx := Hd.mk (hx.out.trans (Ext.alloc w3 (.cells (cLeaf nQuantum 1 1500 100000 true ++ cLeaf nRate 2 0 1000000 true ++ cLeaf nBurst 1 1500 1000000 true).toArray 33)))
  refine (rf_num _ _ _ _ _).mono ?_
  rintro e w4 ⟨rfl, hx1⟩
  replace hown := Hd.mk (own_ext hx1 hown.out)
  replace hx := Hd.mk (hx.out.trans hx1)
  clear hx1
  have hD := Hd.mk (Blk.new w4 (cLeaf nLimit 1 1 64 true).toArray 33)
  replace hown := Hd.mk (hown.out.alloc (.cells (cLeaf nLimit 1 1 64 true).toArray 33))
  replace hx := Hd.mk (hx.out.trans (Ext.alloc w4 (.cells (cLeaf nLimit 1 1 64 true).toArray 33)))
  go_wp2_with (with_reducible refine stop_at (.call { callee := .builtin .append, args := #[.tmp 10, .tmp 12], argTypes := #[31, 31] }) ?_)
  refine Stop.mk ?_
  refine wpl_append sl31 (by omega) (by omega) (.tmp 10) (.tmp 12) 13 _ _ _ w.heap.size _ 3 (cLeaf nQuantum 1 1500 100000 true ++ cLeaf nRate 2 0 1000000 true ++ cLeaf nBurst 1 1500 1000000 true) rfl hown.out (w4.heap.size) 0 1 1 (cLeaf nLimit 1 1 64 true) rfl rfl (fun j u hj => by rw [Nat.zero_add]; exact (hD.out.cell j).trans hj) rfl (by omega) hx.out.size ?_
  intro v1 w5 hown1 hgr hat
  obtain ⟨g1, cap1, sp1, rfl, hgb, hb1, hc1, hc2, hc3⟩ := own_form hown1 (by omega)
  replace hx : Hd (Ext w w5) := Hd.mk (own_below hx.out hgr hg.out hx.out.size)
  replace hown := Hd.mk hown1
  replace hg := Hd.mk hgb
  clear hgr hat hgb hb1 hc1 hc2 hc3 hown1
  have hfin := Hd.mk (rowPost_own (css := [cLeaf nQuantum 1 1500 100000 true, cLeaf nRate 2 0 1000000 true, cLeaf nBurst 1 1500 1000000 true, cLeaf nLimit 1 1 64 true]) hown.out rfl (by decide) rfl hx.out)
  clear hown hx hg
  go_wp2_with fail
  go_ret
  exact ⟨_, rfl, hfin.out⟩

set_option maxHeartbeats 1000000 in
theorem rf_class2 (w : World) : Calls Try.prog 89 #[.int .i64 2] w (Ret (RowPost 33 [cLeaf nQuantum 1 1500 100000 true, cLeaf nRate 2 0 1000000 true, cLeaf nBurst 1 1500 1000000 true, cLeaf nLimit 1 1 64 true, cShaped] w)) := by
  go_enter Try.func89, Try.ntmps89
  go_wp2_with fail
  refine (rf_num _ _ _ _ _).mono ?_
  rintro e w1 ⟨rfl, hx1⟩
  go_wp2_with fail
  refine (rf_num _ _ _ _ _).mono ?_
  rintro e w2 ⟨rfl, hx2⟩
  go_wp2_with fail
  refine (rf_num _ _ _ _ _).mono ?_
  rintro e w3 ⟨rfl, hx3⟩
  have hx := Hd.mk ((hx1.trans hx2).trans hx3)
  clear hx1 hx2 hx3
  go_wp2_with fail
  have hown := Hd.mk (own_new (w := w3) (base := w.heap.size) (e := 33) (sz := 9) (n := 3) (cs := (cLeaf nQuantum 1 1500 100000 true ++ cLeaf nRate 2 0 1000000 true ++ cLeaf nBurst 1 1500 1000000 true).toArray) hx.out.size (by simp [maxLen]) rfl)
  have hg := Hd.mk hx.out.size
  replace hx := Hd.mk (hx.out.trans (Ext.alloc w3 (.cells (cLeaf nQuantum 1 1500 100000 true ++ cLeaf nRate 2 0 1000000 true ++ cLeaf nBurst 1 1500 1000000 true).toArray 33)))
  refine (rf_num _ _ _ _ _).mono ?_
  rintro e w4 ⟨rfl, hx1⟩
  replace hown := Hd.mk (own_ext hx1 hown.out)
  replace hx := Hd.mk (hx.out.trans hx1)
  clear hx1
  have hD := Hd.mk (Blk.new w4 (cLeaf nLimit 1 1 64 true).toArray 33)
  replace hown := Hd.mk (hown.out.alloc (.cells (cLeaf nLimit 1 1 64 true).toArray 33))
  replace hx := Hd.mk (hx.out.trans (Ext.alloc w4 (.cells (cLeaf nLimit 1 1 64 true).toArray 33)))
  go_wp2_with (with_reducible refine stop_at (.call { callee := .builtin .append, args := #[.tmp 10, .tmp 12], argTypes := #[31, 31] }) ?_)
  refine Stop.mk ?_
  refine wpl_append sl31 (by omega) (by omega) (.tmp 10) (.tmp 12) 13 _ _ _ w.heap.size _ 3 (cLeaf nQuantum 1 1500 100000 true ++ cLeaf nRate 2 0 1000000 true ++ cLeaf nBurst 1 1500 1000000 true) rfl hown.out (w4.heap.size) 0 1 1 (cLeaf nLimit 1 1 64 true) rfl rfl (fun j u hj => by rw [Nat.zero_add]; exact (hD.out.cell j).trans hj) rfl (by omega) hx.out.size ?_
  intro v1 w5 hown1 hgr hat
  obtain ⟨g1, cap1, sp1, rfl, hgb, hb1, hc1, hc2, hc3⟩ := own_form hown1 (by omega)
  replace hx : Hd (Ext w w5) := Hd.mk (own_below hx.out hgr hg.out hx.out.size)
  replace hown := Hd.mk hown1
  replace hg := Hd.mk hgb
  clear hgr hat hgb hb1 hc1 hc2 hc3 hown1
  clear hD
  have hD := Hd.mk (Blk.new w5 cShaped.toArray 33)
  replace hown := Hd.mk (hown.out.alloc (.cells cShaped.toArray 33))
  replace hx := Hd.mk (hx.out.trans (Ext.alloc w5 (.cells cShaped.toArray 33)))
  go_wp2_with (with_reducible refine stop_at (.call { callee := .builtin .append, args := #[.tmp 20, .tmp 22], argTypes := #[31, 31] }) ?_)
  refine Stop.mk ?_
  refine wpl_append sl31 (by omega) (by omega) (.tmp 20) (.tmp 22) 23 _ _ _ w.heap.size _ 4 (cLeaf nQuantum 1 1500 100000 true ++ cLeaf nRate 2 0 1000000 true ++ cLeaf nBurst 1 1500 1000000 true ++ cLeaf nLimit 1 1 64 true) rfl hown.out (w5.heap.size) 0 1 1 (cShaped) rfl rfl (fun j u hj => by rw [Nat.zero_add]; exact (hD.out.cell j).trans hj) rfl (by omega) hx.out.size ?_
  intro v1 w6 hown1 hgr hat
  obtain ⟨g1, cap1, sp1, rfl, hgb, hb1, hc1, hc2, hc3⟩ := own_form hown1 (by omega)
  replace hx : Hd (Ext w w6) := Hd.mk (own_below hx.out hgr hg.out hx.out.size)
  replace hown := Hd.mk hown1
  replace hg := Hd.mk hgb
  clear hgr hat hgb hb1 hc1 hc2 hc3 hown1
  have hfin := Hd.mk (rowPost_own (css := [cLeaf nQuantum 1 1500 100000 true, cLeaf nRate 2 0 1000000 true, cLeaf nBurst 1 1500 1000000 true, cLeaf nLimit 1 1 64 true, cShaped]) hown.out rfl (by decide) rfl hx.out)
  clear hown hx hg
  go_wp2_with fail
  go_ret
  exact ⟨_, rfl, hfin.out⟩

set_option maxHeartbeats 1000000 in
theorem rf_class3 (w : World) : Calls Try.prog 89 #[.int .i64 3] w (Ret (RowPost 33 [cLeaf nQuantum 1 1500 100000 true, cLeaf nRate 2 0 1000000 true, cLeaf nBurst 1 1500 1000000 true, cLeaf nDepth 1 1 64 true, cShaped] w)) := by
  go_enter Try.func89, Try.ntmps89
  go_wp2_with fail
  refine (rf_num _ _ _ _ _).mono ?_
  rintro e w1 ⟨rfl, hx1⟩
  go_wp2_with fail
  refine (rf_num _ _ _ _ _).mono ?_
  rintro e w2 ⟨rfl, hx2⟩
  go_wp2_with fail
  refine (rf_num _ _ _ _ _).mono ?_
  rintro e w3 ⟨rfl, hx3⟩
  have hx := Hd.mk ((hx1.trans hx2).trans hx3)
  clear hx1 hx2 hx3
  go_wp2_with fail
  have hown := Hd.mk (own_new (w := w3) (base := w.heap.size) (e := 33) (sz := 9) (n := 3) (cs := (cLeaf nQuantum 1 1500 100000 true ++ cLeaf nRate 2 0 1000000 true ++ cLeaf nBurst 1 1500 1000000 true).toArray) hx.out.size (by simp [maxLen]) rfl)
  have hg := Hd.mk hx.out.size
  replace hx := Hd.mk (hx.out.trans (Ext.alloc w3 (.cells (cLeaf nQuantum 1 1500 100000 true ++ cLeaf nRate 2 0 1000000 true ++ cLeaf nBurst 1 1500 1000000 true).toArray 33)))
  refine (rf_num _ _ _ _ _).mono ?_
  rintro e w4 ⟨rfl, hx1⟩
  replace hown := Hd.mk (own_ext hx1 hown.out)
  replace hx := Hd.mk (hx.out.trans hx1)
  clear hx1
  have hD := Hd.mk (Blk.new w4 (cLeaf nDepth 1 1 64 true).toArray 33)
  replace hown := Hd.mk (hown.out.alloc (.cells (cLeaf nDepth 1 1 64 true).toArray 33))
  replace hx := Hd.mk (hx.out.trans (Ext.alloc w4 (.cells (cLeaf nDepth 1 1 64 true).toArray 33)))
  go_wp2_with (with_reducible refine stop_at (.call { callee := .builtin .append, args := #[.tmp 14, .tmp 16], argTypes := #[31, 31] }) ?_)
  refine Stop.mk ?_
  refine wpl_append sl31 (by omega) (by omega) (.tmp 14) (.tmp 16) 17 _ _ _ w.heap.size _ 3 (cLeaf nQuantum 1 1500 100000 true ++ cLeaf nRate 2 0 1000000 true ++ cLeaf nBurst 1 1500 1000000 true) rfl hown.out (w4.heap.size) 0 1 1 (cLeaf nDepth 1 1 64 true) rfl rfl (fun j u hj => by rw [Nat.zero_add]; exact (hD.out.cell j).trans hj) rfl (by omega) hx.out.size ?_
  intro v1 w5 hown1 hgr hat
  obtain ⟨g1, cap1, sp1, rfl, hgb, hb1, hc1, hc2, hc3⟩ := own_form hown1 (by omega)
  replace hx : Hd (Ext w w5) := Hd.mk (own_below hx.out hgr hg.out hx.out.size)
  replace hown := Hd.mk hown1
  replace hg := Hd.mk hgb
  clear hgr hat hgb hb1 hc1 hc2 hc3 hown1
  clear hD
  have hD := Hd.mk (Blk.new w5 cShaped.toArray 33)
  replace hown := Hd.mk (hown.out.alloc (.cells cShaped.toArray 33))
  replace hx := Hd.mk (hx.out.trans (Ext.alloc w5 (.cells cShaped.toArray 33)))
  go_wp2_with (with_reducible refine stop_at (.call { callee := .builtin .append, args := #[.tmp 20, .tmp 22], argTypes := #[31, 31] }) ?_)
  refine Stop.mk ?_
  refine wpl_append sl31 (by omega) (by omega) (.tmp 20) (.tmp 22) 23 _ _ _ w.heap.size _ 4 (cLeaf nQuantum 1 1500 100000 true ++ cLeaf nRate 2 0 1000000 true ++ cLeaf nBurst 1 1500 1000000 true ++ cLeaf nDepth 1 1 64 true) rfl hown.out (w5.heap.size) 0 1 1 (cShaped) rfl rfl (fun j u hj => by rw [Nat.zero_add]; exact (hD.out.cell j).trans hj) rfl (by omega) hx.out.size ?_
  intro v1 w6 hown1 hgr hat
  obtain ⟨g1, cap1, sp1, rfl, hgb, hb1, hc1, hc2, hc3⟩ := own_form hown1 (by omega)
  replace hx : Hd (Ext w w6) := Hd.mk (own_below hx.out hgr hg.out hx.out.size)
  replace hown := Hd.mk hown1
  replace hg := Hd.mk hgb
  clear hgr hat hgb hb1 hc1 hc2 hc3 hown1
  have hfin := Hd.mk (rowPost_own (css := [cLeaf nQuantum 1 1500 100000 true, cLeaf nRate 2 0 1000000 true, cLeaf nBurst 1 1500 1000000 true, cLeaf nDepth 1 1 64 true, cShaped]) hown.out rfl (by decide) rfl hx.out)
  clear hown hx hg
  go_wp2_with fail
  go_ret
  exact ⟨_, rfl, hfin.out⟩


end Go.Proofs.Ytgkgedjmnbjalaa

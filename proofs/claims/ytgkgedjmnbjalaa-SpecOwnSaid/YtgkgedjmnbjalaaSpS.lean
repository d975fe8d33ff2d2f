/- The document's root of each version (tollbarref07.Root).
   Conditions: none. -/
import Derived.Test.YtgkgedjmnbjalaaSpR
set_option linter.unusedSimpArgs false
namespace Go.Proofs.Ytgkgedjmnbjalaa
open Go.RowKit Go.Sort

theorem rep_rule' {w : World} {base B : Nat} (E : TypeId) (hB : base ≤ B) (h : Blk w B cRule E) : RepS E base w (sList nRule 16 sRule) (cList nRule 16 B 3 3) :=
  rep_list _ _ _ B 3 [cLeaf ⟨#[108, 111, 119]⟩ 1 0 65535 true, cLeaf ⟨#[104, 105, 103, 104]⟩ 1 0 65535 true, cLeaf nClass 6 0 0 true] [] 3 rfl hB h (by simp [cLeaf]) rfl (by decide)
    (All2.get (ks := sRule) ⟨rep_leaf _ _ _ _ _ _ _ _, rep_leaf _ _ _ _ _ _ _ _, rep_leaf _ _ _ _ _ _ _ _, trivial⟩)
theorem rep_port1 {E : TypeId} {w : World} {base Bp Bc Br cap : Nat} {sp : List Value} (h1 : base ≤ Bp) (h2 : base ≤ Bc) (h3 : base ≤ Br) (hp : Blk w Bp (cPort' Bc 4 cap Br) E)
    (hc : Blk w Bc ([cLeaf nQuantum 1 1500 100000 true, cLeaf nRate 2 0 1000000 true, cLeaf nBurst 1 1500 1000000 true, cLeaf nLimit 1 1 64 true].flatten ++ sp) E) (hr : Blk w Br cRule E) :
    RepS E base w (sList nPort 4 (sPort sClass1)) (cList nPort 4 Bp 4 4) := by
  refine rep_list _ _ _ Bp 4 [cLeaf nUp 3 0 0 false, cList nClass 8 Bc 4 cap, cList nRule 16 Br 3 3, cLeaf nDefault 6 0 0 true] [] 4 rfl h1 hp (by simp [cLeaf, cList]) rfl (by decide) (All2.get (ks := [_, _, _, _]) ⟨rep_leaf _ _ _ _ _ _ _ _, ?_, rep_rule' E h3 hr, rep_leaf _ _ _ _ _ _ _ _, trivial⟩)
  exact rep_list _ _ _ Bc cap [cLeaf nQuantum 1 1500 100000 true, cLeaf nRate 2 0 1000000 true, cLeaf nBurst 1 1500 1000000 true, cLeaf nLimit 1 1 64 true] sp 4 rfl h2 hc (by simp [cLeaf]) rfl (by decide)
    (All2.get (ks := sClass1) ⟨rep_leaf _ _ _ _ _ _ _ _, rep_leaf _ _ _ _ _ _ _ _, rep_leaf _ _ _ _ _ _ _ _, rep_leaf _ _ _ _ _ _ _ _, trivial⟩)
theorem rep_port2 {E : TypeId} {w : World} {base Bp Bc Br Nn cap cap2 : Nat} {sp sp2 : List Value} (h1 : base ≤ Bp) (h2 : base ≤ Bc) (h3 : base ≤ Br) (hp : Blk w Bp (cPort' Bc 5 cap Br ++ cKind Nn ++ sp2) E)
    (hc : Blk w Bc ([cLeaf nQuantum 1 1500 100000 true, cLeaf nRate 2 0 1000000 true, cLeaf nBurst 1 1500 1000000 true, cLeaf nLimit 1 1 64 true, cShaped].flatten ++ sp) E) (hr : Blk w Br cRule E) (hn : Blk w Nn cNames 9) (hE : E = 33 := by rfl) :
    RepS E base w (sList nPort 4 (sPort (sClass1 ++ [sShaped]) ++ [sKind])) (cList nPort 4 Bp 5 cap2) := by
  refine rep_list _ _ _ Bp cap2 [cLeaf nUp 3 0 0 false, cList nClass 8 Bc 5 cap, cList nRule 16 Br 3 3, cLeaf nDefault 6 0 0 true, cKind Nn] sp2 5 rfl h1 hp (by simp [cLeaf, cList, cKind]) rfl (by decide) (All2.get (ks := [_, _, _, _, _]) ⟨rep_leaf _ _ _ _ _ _ _ _, ?_, rep_rule' E h3 hr, rep_leaf _ _ _ _ _ _ _ _, rep_kind _ _ _ _ (fun h => absurd (hE.symm.trans h) (by decide)) hn, trivial⟩)
  exact rep_list _ _ _ Bc cap [cLeaf nQuantum 1 1500 100000 true, cLeaf nRate 2 0 1000000 true, cLeaf nBurst 1 1500 1000000 true, cLeaf nLimit 1 1 64 true, cShaped] sp 5 rfl h2 hc (by simp [cLeaf, cShaped]) rfl (by decide)
    (All2.get (ks := [_, _, _, _, _]) ⟨rep_leaf _ _ _ _ _ _ _ _, rep_leaf _ _ _ _ _ _ _ _, rep_leaf _ _ _ _ _ _ _ _, rep_leaf _ _ _ _ _ _ _ _, rep_leaf _ _ _ _ _ _ _ _, trivial⟩)
theorem rep_port3 {E : TypeId} {w : World} {base Bp Bc Br Nn cap cap2 : Nat} {sp sp2 : List Value} (h1 : base ≤ Bp) (h2 : base ≤ Bc) (h3 : base ≤ Br) (hp : Blk w Bp (cPort' Bc 5 cap Br ++ cKind Nn ++ sp2) E)
    (hc : Blk w Bc ([cLeaf nQuantum 1 1500 100000 true, cLeaf nRate 2 0 1000000 true, cLeaf nBurst 1 1500 1000000 true, cLeaf nDepth 1 1 64 true, cShaped].flatten ++ sp) E) (hr : Blk w Br cRule E) (hn : Blk w Nn cNames 9) (hE : E = 33 := by rfl) :
    RepS E base w (sList nPort 4 (sPort (sClass3 ++ [sShaped]) ++ [sKind])) (cList nPort 4 Bp 5 cap2) := by
  refine rep_list _ _ _ Bp cap2 [cLeaf nUp 3 0 0 false, cList nClass 8 Bc 5 cap, cList nRule 16 Br 3 3, cLeaf nDefault 6 0 0 true, cKind Nn] sp2 5 rfl h1 hp (by simp [cLeaf, cList, cKind]) rfl (by decide) (All2.get (ks := [_, _, _, _, _]) ⟨rep_leaf _ _ _ _ _ _ _ _, ?_, rep_rule' E h3 hr, rep_leaf _ _ _ _ _ _ _ _, rep_kind _ _ _ _ (fun h => absurd (hE.symm.trans h) (by decide)) hn, trivial⟩)
  exact rep_list _ _ _ Bc cap [cLeaf nQuantum 1 1500 100000 true, cLeaf nRate 2 0 1000000 true, cLeaf nBurst 1 1500 1000000 true, cLeaf nDepth 1 1 64 true, cShaped] sp 5 rfl h2 hc (by simp [cLeaf, cShaped]) rfl (by decide)
    (All2.get (ks := [_, _, _, _, _]) ⟨rep_leaf _ _ _ _ _ _ _ _, rep_leaf _ _ _ _ _ _ _ _, rep_leaf _ _ _ _ _ _ _ _, rep_leaf _ _ _ _ _ _ _ _, rep_leaf _ _ _ _ _ _ _ _, trivial⟩)

set_option maxHeartbeats 2000000 in
theorem rf_root1 (w : World) : Calls Try.prog 26 #[.int .i64 1] w (Ret (SpPost 33 (rootSp 0, 0) w)) := by
  go_enter Try.func26, Try.ntmps26
  go_wp2_with fail
  refine (rf_num _ _ _ _ _).mono ?_
  rintro e w1 ⟨rfl, hx1⟩
  go_wp2_with fail
  refine (rf_num _ _ _ _ _).mono ?_
  rintro e w2 ⟨rfl, hx2⟩
  have hx := Hd.mk ((Ext.alloc w _).trans (hx1.trans hx2))
  have hb0 := Hd.mk ((Blk.new w _ 33).ext (hx1.trans hx2))
  have l0 := Hd.mk (show w.heap.size < w2.heap.size from hb0.out.lt)
  clear hx1 hx2
  go_wp2_with fail
  have hR := Hd.mk (Blk.new w2 cRule.toArray 33)
  replace hb0 := Hd.mk (hb0.out.alloc (.cells cRule.toArray 33))
  replace hx := Hd.mk (hx.out.trans (Ext.alloc w2 (.cells cRule.toArray 33)))
  refine (rf_class1 _).mono ?_
  rintro e w3 ⟨_, rfl, g, cap, sp, rfl, hg, hC, hcap, _, _, hx3⟩
  simp only [List.length_cons, List.length_nil, Nat.zero_add, Nat.reduceAdd]
  replace hb0 := Hd.mk (hb0.out.ext hx3)
  replace hR := Hd.mk (hR.out.ext hx3)
  replace hx := Hd.mk (hx.out.trans hx3)
  have hC' := Hd.mk hC
  have l1 := Hd.mk (show w2.heap.size < w3.heap.size from hR.out.lt)
  have l2 := Hd.mk (show g < w3.heap.size from hC.lt)
  have l3 := Hd.mk (show w.heap.size ≤ g from Nat.le_trans (Nat.le_trans (Nat.le_of_lt l0.out) (by rw [World.size_alloc]; omega)) hg)
  have l4 := Hd.mk (show w2.heap.size ≠ g by rw [World.size_alloc] at hg; omega)
  clear hg hC hcap hx3
  have hown := Hd.mk (own_new (w := w3) (base := w.heap.size) (e := 33) (sz := 9) (n := 4) (cs := (cPort' g 4 cap w2.heap.size).toArray) hx.out.size (by simp [maxLen]) rfl)
  replace hb0 := Hd.mk (hb0.out.alloc (.cells (cPort' g 4 cap w2.heap.size).toArray 33))
  replace hR := Hd.mk (hR.out.alloc (.cells (cPort' g 4 cap w2.heap.size).toArray 33))
  replace hC' := Hd.mk (hC'.out.alloc (.cells (cPort' g 4 cap w2.heap.size).toArray 33))
  replace hx := Hd.mk (hx.out.trans (Ext.alloc w3 (.cells (cPort' g 4 cap w2.heap.size).toArray 33)))
  have hP := Hd.mk (Blk.new w3 (cPort' g 4 cap w2.heap.size).toArray 33)
  have lP := Hd.mk (show w.heap.size ≤ w3.heap.size by have := l3.out; have := l2.out; omega)
  clear hown
  have hRt := Hd.mk (Blk.new2 w3 (.cells (cPort' g 4 cap w2.heap.size).toArray 33) (cLeaf nSystem 5 0 0 false ++ cList nPort 4 (w3.heap.size) 4 4).toArray 33)
  replace hb0 := Hd.mk (hb0.out.alloc (.cells (cLeaf nSystem 5 0 0 false ++ cList nPort 4 (w3.heap.size) 4 4).toArray 33))
  replace hR := Hd.mk (hR.out.alloc (.cells (cLeaf nSystem 5 0 0 false ++ cList nPort 4 (w3.heap.size) 4 4).toArray 33))
  replace hC' := Hd.mk (hC'.out.alloc (.cells (cLeaf nSystem 5 0 0 false ++ cList nPort 4 (w3.heap.size) 4 4).toArray 33))
  replace hP := Hd.mk (hP.out.alloc (.cells (cLeaf nSystem 5 0 0 false ++ cList nPort 4 (w3.heap.size) 4 4).toArray 33))
  replace hx := Hd.mk (hx.out.trans (Ext.alloc _ (.cells (cLeaf nSystem 5 0 0 false ++ cList nPort 4 (w3.heap.size) 4 4).toArray 33)))
  go_wp2_with (with_reducible refine stop_at (.store 33 (.tmp 2) (.tmp 44)) ?_)
  refine Stop.mk ?_
  refine wpl_store_box 33 (.tmp 2) (.tmp 44) _ _ _ w.heap.size (cRoot (w3.heap.size + 1) 2 2).toArray 33 _ hb0.out rfl rfl size33 rfl rfl ?_
  intro Y hu hbY
  have hY := Hd.mk hbY
  have o0 := l0.out
  have o1 := l1.out
  have o2 := l2.out
  have o3 := l3.out
  have o4 := l4.out
  have o5 := lP.out
  have hg0 := Hd.mk (show g ≠ w.heap.size by rintro rfl; have h1 := hb0.out.inj hC'.out; simp [cLeaf] at h1)
  have o6 := hg0.out
  have hrep : RepS 33 w.heap.size Y (rootSp 0) (cRoot (w3.heap.size + 1) 2 2) := rep_root _ _ 2 [cLeaf nSystem 5 0 0 false, cList nPort 4 w3.heap.size 4 4] [] 2 rfl (by omega) (hu.blk (by omega) hRt.out) (by simp [cLeaf, cList]) rfl (by simp) (All2.get (ks := [_, _]) ⟨rep_leaf _ _ _ _ _ _ _ _, rep_port1 (by omega) (by omega) (by omega) (hu.blk (by omega) hP.out) (hu.blk (by omega) hC'.out) (hu.blk (by omega) hR.out), trivial⟩)
  have hfin := Hd.mk (show SpPost 33 (rootSp 0, 0) w Y _ from ⟨_, rfl, hrep, Below.trans hx.out (hu.below (Nat.le_refl _))⟩)
  go_wp2_with fail
  exact ret_box2 rfl w.heap.size _ 33 _ hY.out rfl rfl Try.underlying33 rfl size33 ⟨_, rfl, hfin.out⟩

set_option maxHeartbeats 2000000 in
theorem rf_root2 (w : World) : Calls Try.prog 26 #[.int .i64 2] w (Ret (SpPost 33 (rootSp 1, 0) w)) := by
  go_enter Try.func26, Try.ntmps26
  go_wp2_with fail
  refine (rf_num _ _ _ _ _).mono ?_
  rintro e w1 ⟨rfl, hx1⟩
  go_wp2_with fail
  refine (rf_num _ _ _ _ _).mono ?_
  rintro e w2 ⟨rfl, hx2⟩
  have hx := Hd.mk ((Ext.alloc w _).trans (hx1.trans hx2))
  have hb0 := Hd.mk ((Blk.new w _ 33).ext (hx1.trans hx2))
  have l0 := Hd.mk (show w.heap.size < w2.heap.size from hb0.out.lt)
  clear hx1 hx2
  go_wp2_with fail
  have hR := Hd.mk (Blk.new w2 cRule.toArray 33)
  replace hb0 := Hd.mk (hb0.out.alloc (.cells cRule.toArray 33))
  replace hx := Hd.mk (hx.out.trans (Ext.alloc w2 (.cells cRule.toArray 33)))
  refine (rf_class2 _).mono ?_
  rintro e w3 ⟨_, rfl, g, cap, sp, rfl, hg, hC, hcap, _, _, hx3⟩
  simp only [List.length_cons, List.length_nil, Nat.zero_add, Nat.reduceAdd]
  replace hb0 := Hd.mk (hb0.out.ext hx3)
  replace hR := Hd.mk (hR.out.ext hx3)
  replace hx := Hd.mk (hx.out.trans hx3)
  have hC' := Hd.mk hC
  have l1 := Hd.mk (show w2.heap.size < w3.heap.size from hR.out.lt)
  have l2 := Hd.mk (show g < w3.heap.size from hC.lt)
  have l3 := Hd.mk (show w.heap.size ≤ g from Nat.le_trans (Nat.le_trans (Nat.le_of_lt l0.out) (by rw [World.size_alloc]; omega)) hg)
  have l4 := Hd.mk (show w2.heap.size ≠ g by rw [World.size_alloc] at hg; omega)
  clear hg hC hcap hx3
  have hown := Hd.mk (own_new (w := w3) (base := w.heap.size) (e := 33) (sz := 9) (n := 4) (cs := (cPort' g 5 cap w2.heap.size).toArray) hx.out.size (by simp [maxLen]) rfl)
  replace hb0 := Hd.mk (hb0.out.alloc (.cells (cPort' g 5 cap w2.heap.size).toArray 33))
  replace hR := Hd.mk (hR.out.alloc (.cells (cPort' g 5 cap w2.heap.size).toArray 33))
  replace hC' := Hd.mk (hC'.out.alloc (.cells (cPort' g 5 cap w2.heap.size).toArray 33))
  replace hx := Hd.mk (hx.out.trans (Ext.alloc w3 (.cells (cPort' g 5 cap w2.heap.size).toArray 33)))
  have hN := Hd.mk (Blk.new2 w3 (.cells (cPort' g 5 cap w2.heap.size).toArray 33) cNames.toArray 9)
  replace hb0 := Hd.mk (hb0.out.alloc (.cells cNames.toArray 9))
  replace hR := Hd.mk (hR.out.alloc (.cells cNames.toArray 9))
  replace hC' := Hd.mk (hC'.out.alloc (.cells cNames.toArray 9))
  replace hown := Hd.mk (hown.out.alloc (.cells cNames.toArray 9))
  replace hx := Hd.mk (hx.out.trans (Ext.alloc _ (.cells cNames.toArray 9)))
  have hD := Hd.mk (show Blk (((w3.alloc (.cells (cPort' g 5 cap w2.heap.size).toArray 33)).alloc (.cells cNames.toArray 9)).alloc (.cells (cKind (w3.heap.size + 1)).toArray 33)) (w3.heap.size + 1 + 1) (cKind (w3.heap.size + 1)) 33 from by have := Blk.new ((w3.alloc (.cells (cPort' g 5 cap w2.heap.size).toArray 33)).alloc (.cells cNames.toArray 9)) (cKind (w3.heap.size + 1)).toArray 33; simpa using this)
  replace hb0 := Hd.mk (hb0.out.alloc (.cells (cKind (w3.heap.size + 1)).toArray 33))
  replace hR := Hd.mk (hR.out.alloc (.cells (cKind (w3.heap.size + 1)).toArray 33))
  replace hC' := Hd.mk (hC'.out.alloc (.cells (cKind (w3.heap.size + 1)).toArray 33))
  replace hN := Hd.mk (hN.out.alloc (.cells (cKind (w3.heap.size + 1)).toArray 33))
  replace hown := Hd.mk (hown.out.alloc (.cells (cKind (w3.heap.size + 1)).toArray 33))
  replace hx := Hd.mk (hx.out.trans (Ext.alloc _ (.cells (cKind (w3.heap.size + 1)).toArray 33)))
  go_wp2_with (with_reducible refine stop_at (.call { callee := .builtin .append, args := #[.tmp 28, .tmp 31], argTypes := #[31, 31] }) ?_)
  refine Stop.mk ?_
  refine wpl_append sl31 (by omega) (by omega) (.tmp 28) (.tmp 31) 32 _ _ _ w.heap.size _ 4 (cPort' g 5 cap w2.heap.size) rfl hown.out (w3.heap.size + 1 + 1) 0 1 1 (cKind (w3.heap.size + 1)) rfl rfl (fun j u hj => by rw [Nat.zero_add]; exact (hD.out.cell j).trans hj) rfl (by omega) hx.out.size ?_
  intro v1 w4 hown1 hgr hat
  obtain ⟨g1, cap1, sp1, rfl, hgb, hb1, hc1, hc2, hc3⟩ := own_form hown1 (by omega)
  have hor := own_at hat
  have hgr2 : World.grownBy _ w4 (some w3.heap.size) := hgr
  have hlt := hN.out.lt
  have hg0 : g ≠ w.heap.size := by rintro rfl; have h1 := hb0.out.inj hC'.out; simp [cLeaf] at h1
  have o0 := l0.out
  have o1 := l1.out
  have o2 := l2.out
  have o3 := l3.out
  have o4 := l4.out
  have o7 := hb0.out.lt
  have o8 := hR.out.lt
  have o9 := hC'.out.lt
  simp only [World.size_alloc] at hor hlt o7 o8 o9
  replace hb0 := Hd.mk (grownBy_blk hgr2 (by intro he; injection he with he; omega) hb0.out)
  replace hR := Hd.mk (grownBy_blk hgr2 (by intro he; injection he with he; omega) hR.out)
  replace hC' := Hd.mk (grownBy_blk hgr2 (by intro he; injection he with he; omega) hC'.out)
  replace hN := Hd.mk (grownBy_blk hgr2 (by intro he; injection he with he; omega) hN.out)
  replace hx : Hd (Ext w w4) := Hd.mk (own_below hx.out hgr2 (by omega) hx.out.size)
  have hP := Hd.mk hb1
  have lP := Hd.mk (show w.heap.size < g1 by rcases hor with h | h <;> omega)
  have lN := Hd.mk (show w.heap.size < w3.heap.size + 1 by omega)
  have lg := Hd.mk hg0
  have l5 := Hd.mk (show g1 < w4.heap.size from hb1.lt)
  have l6 := Hd.mk (show g < w4.heap.size from hC'.out.lt)
  have l7 := Hd.mk (show w3.heap.size + 1 < w4.heap.size from hN.out.lt)
  have l8 := Hd.mk (show w2.heap.size < w4.heap.size from hR.out.lt)
  clear hgr hgr2 hat hor hD hgb hb1 hc1 hc2 hc3 hown1 hown hlt hg0 o0 o1 o2 o3 o4 o7 o8 o9
  have hRt := Hd.mk (Blk.new w4 (cLeaf nSystem 5 0 0 false ++ cList nPort 4 (g1) 5 cap1).toArray 33)
  replace hb0 := Hd.mk (hb0.out.alloc (.cells (cLeaf nSystem 5 0 0 false ++ cList nPort 4 (g1) 5 cap1).toArray 33))
  replace hR := Hd.mk (hR.out.alloc (.cells (cLeaf nSystem 5 0 0 false ++ cList nPort 4 (g1) 5 cap1).toArray 33))
  replace hC' := Hd.mk (hC'.out.alloc (.cells (cLeaf nSystem 5 0 0 false ++ cList nPort 4 (g1) 5 cap1).toArray 33))
  replace hN := Hd.mk (hN.out.alloc (.cells (cLeaf nSystem 5 0 0 false ++ cList nPort 4 (g1) 5 cap1).toArray 33))
  replace hP := Hd.mk (hP.out.alloc (.cells (cLeaf nSystem 5 0 0 false ++ cList nPort 4 (g1) 5 cap1).toArray 33))
  replace hx := Hd.mk (hx.out.trans (Ext.alloc _ (.cells (cLeaf nSystem 5 0 0 false ++ cList nPort 4 (g1) 5 cap1).toArray 33)))
  have l9 := Hd.mk (show w.heap.size < w4.heap.size by have := l5.out; have := lP.out; omega)
  go_wp2_with (with_reducible refine stop_at (.store 33 (.tmp 2) (.tmp 44)) ?_)
  refine Stop.mk ?_
  refine wpl_store_box 33 (.tmp 2) (.tmp 44) _ _ _ w.heap.size (cRoot (w4.heap.size) 2 2).toArray 33 _ hb0.out rfl rfl size33 rfl rfl ?_
  intro Y hu hbY
  have hY := Hd.mk hbY
  have o0 := l0.out
  have o1 := l1.out
  have o2 := l2.out
  have o3 := l3.out
  have o4 := l4.out
  have o5 := lP.out
  have o6 := lg.out
  have o9 := l9.out
  have hrep : RepS 33 w.heap.size Y (rootSp 1) (cRoot w4.heap.size 2 2) := rep_root _ _ 2 [cLeaf nSystem 5 0 0 false, cList nPort 4 g1 5 cap1] [] 2 rfl (by omega) (hu.blk (by omega) hRt.out) (by simp [cLeaf, cList]) rfl (by simp) (All2.get (ks := [_, _]) ⟨rep_leaf _ _ _ _ _ _ _ _, rep_port2 (by omega) (by omega) (by omega) (hu.blk (by omega) hP.out) (hu.blk (by omega) hC'.out) (hu.blk (by omega) hR.out) (hu.blk (by omega) hN.out), trivial⟩)
  have hfin := Hd.mk (show SpPost 33 (rootSp 1, 0) w Y _ from ⟨_, rfl, hrep, Below.trans hx.out (hu.below (Nat.le_refl _))⟩)
  go_wp2_with fail
  exact ret_box2 rfl w.heap.size _ 33 _ hY.out rfl rfl Try.underlying33 rfl size33 ⟨_, rfl, hfin.out⟩

set_option maxHeartbeats 2000000 in
theorem rf_root3 (w : World) : Calls Try.prog 26 #[.int .i64 3] w (Ret (SpPost 33 (rootSp 2, 0) w)) := by
  go_enter Try.func26, Try.ntmps26
  go_wp2_with fail
  refine (rf_num _ _ _ _ _).mono ?_
  rintro e w1 ⟨rfl, hx1⟩
  go_wp2_with fail
  refine (rf_num _ _ _ _ _).mono ?_
  rintro e w2 ⟨rfl, hx2⟩
  have hx := Hd.mk ((Ext.alloc w _).trans (hx1.trans hx2))
  have hb0 := Hd.mk ((Blk.new w _ 33).ext (hx1.trans hx2))
  have l0 := Hd.mk (show w.heap.size < w2.heap.size from hb0.out.lt)
  clear hx1 hx2
  go_wp2_with fail
  have hR := Hd.mk (Blk.new w2 cRule.toArray 33)
  replace hb0 := Hd.mk (hb0.out.alloc (.cells cRule.toArray 33))
  replace hx := Hd.mk (hx.out.trans (Ext.alloc w2 (.cells cRule.toArray 33)))
  refine (rf_class3 _).mono ?_
  rintro e w3 ⟨_, rfl, g, cap, sp, rfl, hg, hC, hcap, _, _, hx3⟩
  simp only [List.length_cons, List.length_nil, Nat.zero_add, Nat.reduceAdd]
  replace hb0 := Hd.mk (hb0.out.ext hx3)
  replace hR := Hd.mk (hR.out.ext hx3)
  replace hx := Hd.mk (hx.out.trans hx3)
  have hC' := Hd.mk hC
  have l1 := Hd.mk (show w2.heap.size < w3.heap.size from hR.out.lt)
  have l2 := Hd.mk (show g < w3.heap.size from hC.lt)
  have l3 := Hd.mk (show w.heap.size ≤ g from Nat.le_trans (Nat.le_trans (Nat.le_of_lt l0.out) (by rw [World.size_alloc]; omega)) hg)
  have l4 := Hd.mk (show w2.heap.size ≠ g by rw [World.size_alloc] at hg; omega)
  clear hg hC hcap hx3
  have hown := Hd.mk (own_new (w := w3) (base := w.heap.size) (e := 33) (sz := 9) (n := 4) (cs := (cPort' g 5 cap w2.heap.size).toArray) hx.out.size (by simp [maxLen]) rfl)
  replace hb0 := Hd.mk (hb0.out.alloc (.cells (cPort' g 5 cap w2.heap.size).toArray 33))
  replace hR := Hd.mk (hR.out.alloc (.cells (cPort' g 5 cap w2.heap.size).toArray 33))
  replace hC' := Hd.mk (hC'.out.alloc (.cells (cPort' g 5 cap w2.heap.size).toArray 33))
  replace hx := Hd.mk (hx.out.trans (Ext.alloc w3 (.cells (cPort' g 5 cap w2.heap.size).toArray 33)))
  have hN := Hd.mk (Blk.new2 w3 (.cells (cPort' g 5 cap w2.heap.size).toArray 33) cNames.toArray 9)
  replace hb0 := Hd.mk (hb0.out.alloc (.cells cNames.toArray 9))
  replace hR := Hd.mk (hR.out.alloc (.cells cNames.toArray 9))
  replace hC' := Hd.mk (hC'.out.alloc (.cells cNames.toArray 9))
  replace hown := Hd.mk (hown.out.alloc (.cells cNames.toArray 9))
  replace hx := Hd.mk (hx.out.trans (Ext.alloc _ (.cells cNames.toArray 9)))
  have hD := Hd.mk (show Blk (((w3.alloc (.cells (cPort' g 5 cap w2.heap.size).toArray 33)).alloc (.cells cNames.toArray 9)).alloc (.cells (cKind (w3.heap.size + 1)).toArray 33)) (w3.heap.size + 1 + 1) (cKind (w3.heap.size + 1)) 33 from by have := Blk.new ((w3.alloc (.cells (cPort' g 5 cap w2.heap.size).toArray 33)).alloc (.cells cNames.toArray 9)) (cKind (w3.heap.size + 1)).toArray 33; simpa using this)
  replace hb0 := Hd.mk (hb0.out.alloc (.cells (cKind (w3.heap.size + 1)).toArray 33))
  replace hR := Hd.mk (hR.out.alloc (.cells (cKind (w3.heap.size + 1)).toArray 33))
  replace hC' := Hd.mk (hC'.out.alloc (.cells (cKind (w3.heap.size + 1)).toArray 33))
  replace hN := Hd.mk (hN.out.alloc (.cells (cKind (w3.heap.size + 1)).toArray 33))
  replace hown := Hd.mk (hown.out.alloc (.cells (cKind (w3.heap.size + 1)).toArray 33))
  replace hx := Hd.mk (hx.out.trans (Ext.alloc _ (.cells (cKind (w3.heap.size + 1)).toArray 33)))
  go_wp2_with (with_reducible refine stop_at (.call { callee := .builtin .append, args := #[.tmp 28, .tmp 31], argTypes := #[31, 31] }) ?_)
  refine Stop.mk ?_
  refine wpl_append sl31 (by omega) (by omega) (.tmp 28) (.tmp 31) 32 _ _ _ w.heap.size _ 4 (cPort' g 5 cap w2.heap.size) rfl hown.out (w3.heap.size + 1 + 1) 0 1 1 (cKind (w3.heap.size + 1)) rfl rfl (fun j u hj => by rw [Nat.zero_add]; exact (hD.out.cell j).trans hj) rfl (by omega) hx.out.size ?_
  intro v1 w4 hown1 hgr hat
  obtain ⟨g1, cap1, sp1, rfl, hgb, hb1, hc1, hc2, hc3⟩ := own_form hown1 (by omega)
  have hor := own_at hat
  have hgr2 : World.grownBy _ w4 (some w3.heap.size) := hgr
  have hlt := hN.out.lt
  have hg0 : g ≠ w.heap.size := by rintro rfl; have h1 := hb0.out.inj hC'.out; simp [cLeaf] at h1
  have o0 := l0.out
  have o1 := l1.out
  have o2 := l2.out
  have o3 := l3.out
  have o4 := l4.out
  have o7 := hb0.out.lt
  have o8 := hR.out.lt
  have o9 := hC'.out.lt
  simp only [World.size_alloc] at hor hlt o7 o8 o9
  replace hb0 := Hd.mk (grownBy_blk hgr2 (by intro he; injection he with he; omega) hb0.out)
  replace hR := Hd.mk (grownBy_blk hgr2 (by intro he; injection he with he; omega) hR.out)
  replace hC' := Hd.mk (grownBy_blk hgr2 (by intro he; injection he with he; omega) hC'.out)
  replace hN := Hd.mk (grownBy_blk hgr2 (by intro he; injection he with he; omega) hN.out)
  replace hx : Hd (Ext w w4) := Hd.mk (own_below hx.out hgr2 (by omega) hx.out.size)
  have hP := Hd.mk hb1
  have lP := Hd.mk (show w.heap.size < g1 by rcases hor with h | h <;> omega)
  have lN := Hd.mk (show w.heap.size < w3.heap.size + 1 by omega)
  have lg := Hd.mk hg0
  have l5 := Hd.mk (show g1 < w4.heap.size from hb1.lt)
  have l6 := Hd.mk (show g < w4.heap.size from hC'.out.lt)
  have l7 := Hd.mk (show w3.heap.size + 1 < w4.heap.size from hN.out.lt)
  have l8 := Hd.mk (show w2.heap.size < w4.heap.size from hR.out.lt)
  clear hgr hgr2 hat hor hD hgb hb1 hc1 hc2 hc3 hown1 hown hlt hg0 o0 o1 o2 o3 o4 o7 o8 o9
  have hRt := Hd.mk (Blk.new w4 (cLeaf nSystem 5 0 0 false ++ cList nPort 4 (g1) 5 cap1).toArray 33)
  have hown := Hd.mk (own_new (w := w4) (base := w.heap.size) (e := 33) (sz := 9) (n := 2) (cs := (cLeaf nSystem 5 0 0 false ++ cList nPort 4 (g1) 5 cap1).toArray) hx.out.size (by simp [maxLen]) rfl)
  replace hb0 := Hd.mk (hb0.out.alloc (.cells (cLeaf nSystem 5 0 0 false ++ cList nPort 4 (g1) 5 cap1).toArray 33))
  replace hR := Hd.mk (hR.out.alloc (.cells (cLeaf nSystem 5 0 0 false ++ cList nPort 4 (g1) 5 cap1).toArray 33))
  replace hC' := Hd.mk (hC'.out.alloc (.cells (cLeaf nSystem 5 0 0 false ++ cList nPort 4 (g1) 5 cap1).toArray 33))
  replace hN := Hd.mk (hN.out.alloc (.cells (cLeaf nSystem 5 0 0 false ++ cList nPort 4 (g1) 5 cap1).toArray 33))
  replace hP := Hd.mk (hP.out.alloc (.cells (cLeaf nSystem 5 0 0 false ++ cList nPort 4 (g1) 5 cap1).toArray 33))
  replace hx := Hd.mk (hx.out.trans (Ext.alloc _ (.cells (cLeaf nSystem 5 0 0 false ++ cList nPort 4 (g1) 5 cap1).toArray 33)))
  have l9 := Hd.mk (show w.heap.size < w4.heap.size by have := l5.out; have := lP.out; omega)
  clear hRt
  have hD := Hd.mk (Blk.new2 w4 (.cells (cLeaf nSystem 5 0 0 false ++ cList nPort 4 (g1) 5 cap1).toArray 33) cWait.toArray 33)
  replace hb0 := Hd.mk (hb0.out.alloc (.cells cWait.toArray 33))
  replace hR := Hd.mk (hR.out.alloc (.cells cWait.toArray 33))
  replace hC' := Hd.mk (hC'.out.alloc (.cells cWait.toArray 33))
  replace hN := Hd.mk (hN.out.alloc (.cells cWait.toArray 33))
  replace hP := Hd.mk (hP.out.alloc (.cells cWait.toArray 33))
  replace hown := Hd.mk (hown.out.alloc (.cells cWait.toArray 33))
  replace hx := Hd.mk (hx.out.trans (Ext.alloc _ (.cells cWait.toArray 33)))
  go_wp2_with (with_reducible refine stop_at (.call { callee := .builtin .append, args := #[.tmp 39, .tmp 41], argTypes := #[31, 31] }) ?_)
  refine Stop.mk ?_
  refine wpl_append sl31 (by omega) (by omega) (.tmp 39) (.tmp 41) 42 _ _ _ w.heap.size _ 2 (cLeaf nSystem 5 0 0 false ++ cList nPort 4 (g1) 5 cap1) rfl hown.out (w4.heap.size + 1) 0 1 1 (cWait) rfl rfl (fun j u hj => by rw [Nat.zero_add]; exact (hD.out.cell j).trans hj) rfl (by omega) hx.out.size ?_
  intro v1 w5 hown1 hgr hat
  obtain ⟨g2, cap2, sp2, rfl, hgb, hb1, hc1, hc2, hc3⟩ := own_form hown1 (by omega)
  have hor := own_at hat
  have hgr2 : World.grownBy _ w5 (some w4.heap.size) := hgr
  have o9 := l9.out
  have o5 := l5.out
  have o6 := l6.out
  have o7 := l7.out
  have o8 := l8.out
  have o10 := hb0.out.lt
  have o11 := lP.out
  have o12 := hD.out.lt
  simp only [World.size_alloc] at hor o10 o12
  replace hb0 := Hd.mk (grownBy_blk hgr2 (by intro he; injection he with he; omega) hb0.out)
  replace hR := Hd.mk (grownBy_blk hgr2 (by intro he; injection he with he; omega) hR.out)
  replace hC' := Hd.mk (grownBy_blk hgr2 (by intro he; injection he with he; omega) hC'.out)
  replace hN := Hd.mk (grownBy_blk hgr2 (by intro he; injection he with he; omega) hN.out)
  replace hP := Hd.mk (grownBy_blk hgr2 (by intro he; injection he with he; omega) hP.out)
  replace hx : Hd (Ext w w5) := Hd.mk (own_below hx.out hgr2 (by omega) hx.out.size)
  have hRt := Hd.mk hb1
  have lR := Hd.mk (show w.heap.size < g2 by rcases hor with h | h <;> omega)
  clear hgr hgr2 hat hor hD hgb hb1 hc1 hc2 hc3 hown1 hown o9 o5 o6 o7 o8 o10 o11 o12
  go_wp2_with (with_reducible refine stop_at (.store 33 (.tmp 2) (.tmp 44)) ?_)
  refine Stop.mk ?_
  refine wpl_store_box 33 (.tmp 2) (.tmp 44) _ _ _ w.heap.size (cRoot (g2) 3 cap2).toArray 33 _ hb0.out rfl rfl size33 rfl rfl ?_
  intro Y hu hbY
  have hY := Hd.mk hbY
  have oR := lR.out
  have o0 := l0.out
  have o1 := l1.out
  have o2 := l2.out
  have o3 := l3.out
  have o4 := l4.out
  have o5 := lP.out
  have o6 := lg.out
  have o9 := l9.out
  have hrep : RepS 33 w.heap.size Y (rootSp 2) (cRoot g2 3 cap2) := rep_root _ _ cap2 [cLeaf nSystem 5 0 0 false, cList nPort 4 g1 5 cap1, cWait] sp2 3 rfl (by omega) (hu.blk (by omega) hRt.out) (by simp [cLeaf, cList, cWait]) rfl (by simp) (All2.get (ks := [_, _, _]) ⟨rep_leaf _ _ _ _ _ _ _ _, rep_port3 (by omega) (by omega) (by omega) (hu.blk (by omega) hP.out) (hu.blk (by omega) hC'.out) (hu.blk (by omega) hR.out) (hu.blk (by omega) hN.out), rep_leaf _ _ _ _ _ _ _ _, trivial⟩)
  have hfin := Hd.mk (show SpPost 33 (rootSp 2, 0) w Y _ from ⟨_, rfl, hrep, Below.trans hx.out (hu.below (Nat.le_refl _))⟩)
  go_wp2_with fail
  exact ret_box2 rfl w.heap.size _ 33 _ hY.out rfl rfl Try.underlying33 rfl size33 ⟨_, rfl, hfin.out⟩

end Go.Proofs.Ytgkgedjmnbjalaa

/- awake of the layer's laws: the document's example holds.
   Conditions: none. -/
import Derived.Test.YtgkgedjmnbjalaaSpW
import Derived.Test.YtgkgedjmnbjalaaSpX
set_option linter.unusedSimpArgs false
namespace Go.Proofs.Ytgkgedjmnbjalaa
open Go.RowKit Go.Sort

abbrev nDep3 : List ByteArray := [⟨#[112, 111, 114, 116]⟩, ⟨#[99, 108, 97, 115, 115]⟩, ⟨#[100, 101, 112, 116, 104]⟩]
abbrev nLim2 : List ByteArray := [⟨#[112, 111, 114, 116]⟩, ⟨#[108, 105, 109, 105, 116]⟩]
theorem aw_root1 : specRoot 1 = (rootSp 0, 0) := rfl
theorem aw_root4 : specRoot 4 = (zeroSp, 28) := rfl
theorem aw_at1 : specAt 3 nDep3 = (sLeaf nDepth 1 1 64 true, 0) := by kernel_rfl
theorem aw_at2 : specAt 3 nLim2 = (zeroSp, 22) := by kernel_rfl
theorem aw_find1 : findSp ⟨#[112, 111, 114, 116]⟩ (rootSp 0) = 1 := by decide +kernel
theorem aw_find2 : findSp ⟨#[119, 97, 105, 116]⟩ (rootSp 0) = -1 := by decide +kernel
theorem aw_tag0 : tagSp (rootSp 0) 0 = 2 := by decide +kernel
theorem aw_tag1 : tagSp (rootSp 0) 1 = 5 := by decide +kernel
theorem aw_kid : kidSp (rootSp 0) 5 = 1 := by decide +kernel

theorem srow_blk {w : World} {B : Nat} {l : List ByteArray} {t : TypeId} (h : Blk w B (l.map .string) t) : SRow w (some ⟨B, 0, none⟩) l := fun i x hi =>
  ⟨B, 0, rfl, by rw [Nat.zero_add, h.cell, List.getElem?_map, hi]; rfl⟩

/-- A spec that has been told lies in a box. -/
theorem boxed {E t : TypeId} {b : Nat} {w w1 : World} {s : Sp} {c : List Value} (h : RepS E b w1 s c) (hx : Ext w w1) :
    Blk (w1.alloc (.cells c.toArray t)) w1.heap.size c t ∧ RepS E b (w1.alloc (.cells c.toArray t)) s c ∧ Ext w (w1.alloc (.cells c.toArray t)) :=
  ⟨Blk.new _ _ _, h.ext (Ext.alloc _ _), hx.trans (Ext.alloc _ _)⟩
/-- A row of names has been laid. -/
theorem rowed {w : World} (l : List ByteArray) : SRow (w.alloc (.cells (l.map Value.string).toArray 9)) (some ⟨w.heap.size, 0, none⟩) l ∧ Ext w (w.alloc (.cells (l.map Value.string).toArray 9)) :=
  ⟨srow_blk (Blk.new _ _ _), Ext.alloc _ _⟩

theorem rep_leaf_form {E : TypeId} {b : Nat} {w : World} {nm : ByteArray} {ty mn mx : Int} {must : Bool} {c : List Value} (h : RepS E b w (sLeaf nm ty mn mx must) c) : ∃ N nc K kc, c = cSpec nm 1 ty mn mx N 0 nc must 0 K 0 kc := by
  cases h with
  | mk _ _ _ _ _ _ _ _ _ N nc K kc css _ _ _ _ _ _ => exact ⟨N, nc, K, kc, rfl⟩

set_option maxRecDepth 100000 in
set_option maxHeartbeats 8000000 in
theorem awake_yes (w : World) : Calls Try.prog 24 #[] w fun e w' => e = .returned (.bool true) ∧ Ext w w' := by
  go_enter Try.func24, Try.ntmps24
  go_wp2_with fail
  refine (root_any 1 _).mono ?_
  rintro e w1 ⟨_, rfl, c1, rfl, hr1, hx1⟩
  rw [aw_root1] at hr1 ⊢
  obtain ⟨kind1, ty1, mn1, mx1, N1, nl1, nc1, must1, most1, K1, kc1, rfl⟩ := hr1.form
  have kk1 := Hd.mk (boxed (t := 27) hr1 hx1)
  clear hr1 hx1
  simp only [cSpec]
  go_wp2_with fail
  simp only [cSpec] at kk1
  generalize w1.alloc _ = W1 at *
  refine (root_any 4 _).mono ?_
  rintro e w2 ⟨_, rfl, c2, rfl, hr2, hx2⟩
  rw [aw_root4] at hr2 ⊢
  obtain ⟨kind2, ty2, mn2, mx2, N2, nl2, nc2, must2, most2, K2, kc2, rfl⟩ := hr2.form
  have kk2 := Hd.mk (boxed (t := 27) hr2 hx2)
  clear hr2 hx2
  simp only [cSpec]
  go_wp2_with fail
  simp only [cSpec] at kk2
  refine (at_any 3 nDep3 _ 3 _ (by decide) (srow_blk (Blk.new2 w2 _ _ 9))).mono ?_
  rintro e w3 ⟨_, rfl, c3, rfl, hr3, hx3⟩
  rw [aw_at1] at hr3 ⊢
  have kx3 := Hd.mk (kk2.out.2.2.trans ((Ext.alloc _ _).trans hx3))
  clear hx3 kk2
  obtain ⟨N3, nc3, K3, kc3, rfl⟩ := rep_leaf_form hr3
  have kr3 := Hd.mk hr3
  clear hr3
  simp only [cSpec]
  go_wp2_with fail
  have kb3 := Hd.mk (Blk.new w3 (cSpec nDepth 1 1 1 64 N3 0 nc3 true 0 K3 0 kc3).toArray 27)
  have kx3' := Hd.mk (kx3.out.trans (Ext.alloc w3 (.cells (cSpec nDepth 1 1 1 64 N3 0 nc3 true 0 K3 0 kc3).toArray 27)))
  simp only [cSpec] at kb3 kx3'
  refine (at_any 3 nLim2 _ 2 _ (by decide) (srow_blk (Blk.new2 w3 _ _ 9))).mono ?_
  rintro e w4 ⟨_, rfl, c4, rfl, hr4, hx4⟩
  rw [aw_at2] at hr4 ⊢
  obtain ⟨kind4, ty4, mn4, mx4, N4, nl4, nc4, must4, most4, K4, kc4, rfl⟩ := hr4.form
  have kx4 := Hd.mk ((Ext.alloc _ _).trans hx4)
  have kx4' := Hd.mk (Ext.alloc w4 (.cells (cSpec zeroSp.name kind4 ty4 mn4 mx4 N4 nl4 nc4 must4 most4 K4 zeroSp.kids.length kc4).toArray 27))
  clear hr4 hx4
  simp only [cSpec] at kx4' ⊢
  have g3 := (kb3.out.ext (kx4.out.trans kx4'.out)).cell
  have kx1 := Hd.mk ((kx3'.out.trans kx4.out).trans kx4'.out)
  have g1 := (kk1.out.1.ext kx1.out).cell
  go_wp2_with fail
  have kx3 := Hd.mk (kx4.out.trans kx4'.out)
  clear kx4 kx4' kx3'
  refine Calls.mono (find_any (kk1.out.2.1.ext kx1.out) ⟨#[112, 111, 114, 116]⟩) ?_
  rintro e w5 ⟨rfl, hx⟩
  rw [aw_find1]
  replace kx1 := Hd.mk (kx1.out.trans hx)
  replace kx3 := Hd.mk (kx3.out.trans hx)
  have g1 := (kk1.out.1.ext kx1.out).cell
  have g3 := (kb3.out.ext kx3.out).cell
  clear hx
  go_wp2_with fail
  refine Calls.mono (find_any (kk1.out.2.1.ext kx1.out) ⟨#[119, 97, 105, 116]⟩) ?_
  rintro e w6 ⟨rfl, hx⟩
  rw [aw_find2]
  replace kx1 := Hd.mk (kx1.out.trans hx)
  replace kx3 := Hd.mk (kx3.out.trans hx)
  have g1 := (kk1.out.1.ext kx1.out).cell
  have g3 := (kb3.out.ext kx3.out).cell
  clear hx
  go_wp2_with fail
  refine Calls.mono (tag_any (kk1.out.2.1.ext kx1.out) 0) ?_
  rintro e w7 ⟨rfl, hx⟩
  rw [aw_tag0]
  replace kx1 := Hd.mk (kx1.out.trans hx)
  replace kx3 := Hd.mk (kx3.out.trans hx)
  have g1 := (kk1.out.1.ext kx1.out).cell
  have g3 := (kb3.out.ext kx3.out).cell
  clear hx
  go_wp2_with fail
  refine Calls.mono (tag_any (kk1.out.2.1.ext kx1.out) 1) ?_
  rintro e w8 ⟨rfl, hx⟩
  rw [aw_tag1]
  replace kx1 := Hd.mk (kx1.out.trans hx)
  replace kx3 := Hd.mk (kx3.out.trans hx)
  have g1 := (kk1.out.1.ext kx1.out).cell
  have g3 := (kb3.out.ext kx3.out).cell
  clear hx
  go_wp2_with fail
  refine Calls.mono (kid_any (kk1.out.2.1.ext kx1.out) 5 (by decide) (by decide)) ?_
  rintro e w9 ⟨rfl, hx⟩
  rw [aw_kid]
  replace kx1 := Hd.mk (kx1.out.trans hx)
  replace kx3 := Hd.mk (kx3.out.trans hx)
  have g1 := (kk1.out.1.ext kx1.out).cell
  have g3 := (kb3.out.ext kx3.out).cell
  clear hx
  go_wp2_with fail
  go_ret
  exact ⟨rfl, kk1.out.2.2.trans kx1.out⟩

end Go.Proofs.Ytgkgedjmnbjalaa

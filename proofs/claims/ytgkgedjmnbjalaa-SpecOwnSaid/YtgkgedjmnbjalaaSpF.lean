/- spec.Root: the table of each version, as a tree; else the error.
   Conditions: none. -/
import Derived.Test.YtgkgedjmnbjalaaSpE
set_option linter.unusedSimpArgs false
namespace Go.Proofs.Ytgkgedjmnbjalaa
open Go.RowKit Go.Sort

/-- The table, so many changes behind the first version. -/
def StAt (w : World) (base X : Nat) : Nat → Prop
  | 0 => ∃ Bk Bp Bc Br, St1 w X Bk Bp Bc Br ∧ base ≤ Bc
  | 1 => ∃ Bk Bp Bc Br Nn cap cap2 sp sp2, St2 w base X Bk Bp Bc Br Nn cap cap2 sp sp2
  | _ => ∃ Bk Bp Bc Br Nn cap cap2 cap3 sp sp2 sp3, St3 w base X Bk Bp Bc Br Nn cap cap2 cap3 sp sp2 sp3

theorem StAt.ext {w w' : World} (hx : Ext w w') {base X n : Nat} (hn : n ≤ 1) (h : StAt w base X n) : StAt w' base X n := by
  match n, hn, h with
  | 0, _, h => obtain ⟨Bk, Bp, Bc, Br, h, hb⟩ := h; exact ⟨Bk, Bp, Bc, Br, h.ext hx, hb⟩
  | 1, _, h => obtain ⟨Bk, Bp, Bc, Br, Nn, cap, cap2, sp, sp2, h⟩ := h; exact ⟨Bk, Bp, Bc, Br, Nn, cap, cap2, sp, sp2, h.ext hx⟩

theorem sp_later0 (base X : Nat) (w : World) (h : StAt w base X 0) :
    Calls Try.prog 135 #[.pointer (some ⟨X, 0, none⟩)] w fun e w' => e = .returned (.tuple #[]) ∧ Hd (StAt w' base X 1 ∧ Below base w w' ∧ Keep27 w w') := by
  obtain ⟨Bk, Bp, Bc, Br, h, hb⟩ := h
  refine (sp_later1 base X Bk Bp Bc Br w h hb).mono ?_
  rintro e w' ⟨rfl, Bp', Bc', Nn, cap, cap2, sp, sp2, h2, hbl, hk⟩
  exact ⟨rfl, ⟨⟨_, _, _, _, _, _, _, _, _, h2⟩, hbl, hk⟩⟩
theorem sp_later0' (base X : Nat) (w : World) (h : StAt w base X 1) :
    Calls Try.prog 139 #[.pointer (some ⟨X, 0, none⟩)] w fun e w' => e = .returned (.tuple #[]) ∧ Hd (StAt w' base X 2 ∧ Below base w w') := by
  obtain ⟨Bk, Bp, Bc, Br, Nn, cap, cap2, sp, sp2, h⟩ := h
  refine (sp_later2 base X Bk Bp Bc Br Nn cap cap2 sp sp2 w h).mono ?_
  rintro e w' ⟨rfl, Bk', Bp', Bc', Br', Nn', cap', cap2', cap3', sp', sp2', sp3', h2, hbl⟩
  exact ⟨rfl, ⟨⟨_, _, _, _, _, _, _, _, _, _, _, h2⟩, hbl⟩⟩

theorem sp_later (w : World) : Calls Try.prog 87 #[] w fun e w' => e = .returned (.slice (some ⟨w.heap.size, 0, none⟩) 2 2) ∧ w' = w.alloc (.cells #[.func (.func 135) #[] #[], .func (.func 139) #[] #[]] 105) := by
  go_enter Try.func87, Try.ntmps87
  go_wp2_with fail
  go_ret
  exact ⟨rfl, rfl⟩

/-- A version that there isn't. -/
theorem sp_root_no (v : Int) (w : World) (h : v < 1 ∨ 3 < v) : Calls Try.prog 25 #[.int .i64 v] w fun e w' =>
    e = .returned (.tuple #[.agg #[.string ⟨#[]⟩, .int .i64 0, .int .i64 0, .int .u64 0, .int .u64 0, .slice none 0 0, .bool false, .int .i64 0, .slice none 0 0], .int .i64 28]) ∧ Ext w w' := by
  rcases h with h | h
  · go_enter Try.func25, Try.ntmps25
    go_wp2_with fail
    refine ret_box2 rfl w.heap.size _ 27 _ (Blk.new _ _ _) rfl rfl Try.underlying27 rfl size27 ⟨rfl, Ext.alloc _ _⟩
  · have h' : ¬ v < 1 := by omega
    go_enter Try.func25, Try.ntmps25
    go_wp2_with fail
    refine ret_box2 rfl w.heap.size _ 27 _ (Blk.new _ _ _) rfl rfl Try.underlying27 rfl size27 ⟨rfl, Ext.alloc _ _⟩

theorem StAt.upd {w w' : World} {g base X n : Nat} (hu : Upd w w' g) (hg : g < base) (hX : X ≠ g) (hn : n ≤ 2) (h : StAt w base X n) : StAt w' base X n := by
  match n, hn, h with
  | 0, _, h =>
    obtain ⟨Bk, Bp, Bc, Br, h, hb⟩ := h
    have := h.o1
    have := h.o2
    have := h.o3
    exact ⟨Bk, Bp, Bc, Br, ⟨h.o1, h.o2, h.o3, h.o4, hu.blk hX h.x, hu.blk (by omega) h.k, hu.blk (by omega) h.p, hu.blk (by omega) h.c, hu.blk (by omega) h.r⟩, hb⟩
  | 1, _, h =>
    obtain ⟨Bk, Bp, Bc, Br, Nn, cap, cap2, sp, sp2, h⟩ := h
    have := h.b1
    have := h.b2
    have := h.b3
    have := h.b4
    have := h.b5
    exact ⟨Bk, Bp, Bc, Br, Nn, cap, cap2, sp, sp2, ⟨h.b1, h.b2, h.b3, h.b4, h.b5, h.b6, h.n1, h.n2, h.n3, h.n4, h.n5, h.n6, h.n7, h.n8, h.n9, h.n10, hu.blk hX h.x, hu.blk (by omega) h.k, hu.blk (by omega) h.p, hu.blk (by omega) h.c, hu.blk (by omega) h.r, hu.blk (by omega) h.n⟩⟩
  | 2, _, h =>
    obtain ⟨Bk, Bp, Bc, Br, Nn, cap, cap2, cap3, sp, sp2, sp3, h⟩ := h
    have := h.b1
    have := h.b2
    have := h.b3
    have := h.b4
    have := h.b5
    exact ⟨Bk, Bp, Bc, Br, Nn, cap, cap2, cap3, sp, sp2, sp3, ⟨h.b1, h.b2, h.b3, h.b4, h.b5, hu.blk hX h.x, hu.blk (by omega) h.k, hu.blk (by omega) h.p, hu.blk (by omega) h.c, hu.blk (by omega) h.r, hu.blk (by omega) h.n⟩⟩

theorem StAt.root {w : World} {base X n : Nat} (hn : n ≤ 2) (h : StAt w base X n) : ∃ B k c, Blk w X (cRoot B k c) 27 := by
  match n, hn, h with
  | 0, _, h => obtain ⟨Bk, Bp, Bc, Br, h, hb⟩ := h; exact ⟨_, _, _, h.x⟩
  | 1, _, h => obtain ⟨Bk, Bp, Bc, Br, Nn, cap, cap2, sp, sp2, h⟩ := h; exact ⟨_, _, _, h.x⟩
  | 2, _, h => obtain ⟨Bk, Bp, Bc, Br, Nn, cap, cap2, cap3, sp, sp2, sp3, h⟩ := h; exact ⟨_, _, _, h.x⟩

/-- What Root gives where there is such a version: the table stands in a box, and is told. -/
def RootPost (w : World) (n : Nat) (w' : World) (v : Value) : Prop := ∃ X cells, StAt w' (w.heap.size + 1) X n ∧ Blk w' X cells 27 ∧ v = .tuple #[.agg cells.toArray, .int .i64 0] ∧ Ext w w'

set_option maxHeartbeats 1000000 in
theorem sp_root (n : Nat) (hn : n ≤ 2) (w : World) : Calls Try.prog 25 #[.int .i64 ((n : Int) + 1)] w (Ret (RootPost w n)) := by
  have h1 : ¬ ((n : Int) + 1 < 1) := by omega
  have h2 : ¬ (3 < (n : Int) + 1) := by omega
  go_enter Try.func25, Try.ntmps25
  go_wp2_with fail
  refine (sp_first _).mono ?_
  rintro e w1 ⟨v, rfl, Bk, Bp, Bc, Br, rfl, hl1, hl2, hl3, hl4, hk, hp, hc, hr, hx⟩
  rw [World.size_alloc] at hl1
  have hst : Hd (StAt (w1.alloc (.cells (cRoot Bk 2 2).toArray 27)) (w.heap.size + 1) w1.heap.size 0) :=
    ⟨Bk, Bp, Bc, Br, ⟨hl2, hl3, hl4, hk.lt, Blk.new _ _ _, hk.alloc _, hp.alloc _, hc.alloc _, hr.alloc _⟩, by omega⟩
  have hX : Hd (w.heap.size < w1.heap.size) := ⟨by have := hk.lt; omega⟩
  have hx1 := Hd.mk ((Ext.alloc w _).trans (hx.trans (Ext.alloc w1 (.cells (cRoot Bk 2 2).toArray 27))))
  have hb0 := Hd.mk (((Blk.new w _ 27).ext hx).alloc (.cells (cRoot Bk 2 2).toArray 27))
  clear hl1 hl2 hl3 hl4 hk hp hc hr hx
  simp only [cRoot] at hst hx1 hb0 ⊢
  go_wp2_with fail
  generalize w1.alloc _ = w2 at *
  refine (sp_later _).mono ?_
  rintro e _ ⟨rfl, rfl⟩
  have g0 : (w2.alloc (.cells #[.func (.func 135) #[] #[], .func (.func 139) #[] #[]] 105)).cell? ⟨w2.heap.size, 0, none⟩ = some (.func (.func 135) #[] #[]) := by go_simp
  have g1 : (w2.alloc (.cells #[.func (.func 135) #[] #[], .func (.func 139) #[] #[]] 105)).cell? ⟨w2.heap.size, 1, none⟩ = some (.func (.func 139) #[] #[]) := by go_simp
  have hx2 := Hd.mk (hx1.out.trans (Ext.alloc w2 (.cells #[.func (.func 135) #[] #[], .func (.func 139) #[] #[]] 105)))
  have hl := World.block_lt_of_cell? _ _ g0
  replace hst := Hd.mk (hst.out.ext (Ext.alloc w2 (.cells #[.func (.func 135) #[] #[], .func (.func 139) #[] #[]] 105)) (by omega))
  replace hb0 := Hd.mk (hb0.out.alloc (.cells #[.func (.func 135) #[] #[], .func (.func 139) #[] #[]] 105))
  have hblk := Blk.new w2 #[.func (.func 135) #[] #[], .func (.func 139) #[] #[]] 105
  generalize hw3 : w2.alloc (.cells #[.func (.func 135) #[] #[], .func (.func 139) #[] #[]] 105) = w3 at *
  clear hw3 hx1
  go_wp2_with fail
  have hk := Hd.mk (show Blk w3 w2.heap.size [.func (.func 135) #[] #[], .func (.func 139) #[] #[]] 105 from hblk)
  clear g0 g1 hblk
  go_loopg [20] (n + 1) (fun q i wr => ∃ j : Nat, j ≤ n ∧ Hd (q = n + 1 - j) ∧ i = .int .i64 j ∧ Hd (StAt wr (w.heap.size + 1) w1.heap.size j) ∧ Hd (Below (w.heap.size + 1) w3 wr) ∧ Hd (j ≤ 1 → Keep27 w3 wr))
  case atStart => exact ⟨0, Nat.zero_le _, ⟨by omega⟩, rfl, hst, ⟨Below.refl _ _⟩, ⟨fun _ => fun _ _ _ _ h => h⟩⟩
  case round =>
  clear hst
  obtain ⟨j, hj, hq, rfl, hst, hbl, hkp⟩ := hrel
  by_cases hlt : j < n
  · have hj1 : j ≤ 1 := by omega
    have g := (hkp.out hj1 _ _ _ (by decide) hk.out).cell
    match j, hj1, hlt with
    | 0, _, hlt =>
      have g0 : wr.cell? ⟨w2.heap.size, 0, none⟩ = some (.func (.func 135) #[] #[]) := by rw [g]; rfl
      clear g
      go_wp2_with fail
      refine (sp_later0 (w.heap.size + 1) w1.heap.size wr hst.out).mono ?_
      rintro e w4 ⟨rfl, h5⟩
      have hst2 := Hd.mk h5.out.1
      have hbl2 := Hd.mk (hbl.out.trans h5.out.2.1)
      have hkp2 := Hd.mk (fun _ : 1 ≤ 1 => (hkp.out (by omega)).trans h5.out.2.2)
      clear h5 g0 hst hbl hkp
      go_wp2_with fail
      go_roundg (n + 1 - 1)
      case measure => have := hq.out; omega
      case rel => exact ⟨1, by omega, ⟨rfl⟩, rfl, hst2, hbl2, hkp2⟩
    | 1, _, hlt =>
      have g1 : wr.cell? ⟨w2.heap.size, 1, none⟩ = some (.func (.func 139) #[] #[]) := by rw [g]; rfl
      clear g
      go_wp2_with fail
      refine (sp_later0' (w.heap.size + 1) w1.heap.size wr hst.out).mono ?_
      rintro e w4 ⟨rfl, h5⟩
      have hst2 := Hd.mk h5.out.1
      have hbl2 := Hd.mk (hbl.out.trans h5.out.2)
      clear h5 g1 hst hbl hkp
      go_wp2_with fail
      go_roundg (n + 1 - 2)
      case measure => have := hq.out; omega
      case rel => exact ⟨2, by omega, ⟨rfl⟩, rfl, hst2, hbl2, ⟨fun h => by omega⟩⟩
  · obtain rfl : j = n := by omega
    obtain ⟨B, k, c, hbx⟩ := hst.out.root hn
    have g := hbx.cell
    have hbx2 := Hd.mk hbx
    replace hb0 := Hd.mk (hb0.out.below hbl.out (Nat.lt_succ_self _))
    simp only [cRoot] at g
    clear hbx hq hkp hk hlt
    go_wp2_with ((with_reducible refine at_op (.store 27 (.tmp 2) (.tmp 27)) ?_); refine wpl_store_box 27 (.tmp 2) (.tmp 27) _ _ _ w.heap.size (cRoot B k c).toArray 27 _ hb0.out rfl rfl size27 rfl rfl ?_; intro Y hu hbY; have hfin := Hd.mk (show RootPost w j Y (.tuple #[.agg (cRoot B k c).toArray, .int .i64 0]) from ⟨_, _, hst.out.upd hu (Nat.lt_succ_self _) (Nat.ne_of_gt hX.out) hn, hu.blk (Nat.ne_of_gt hX.out) hbx2.out, rfl, Below.trans (Below.trans hx2.out (hbl.out.mono (Nat.le_succ _))) (hu.below (Nat.le_refl _))⟩); have hbY2 := Hd.mk hbY; clear hu hbY)
    exact ret_box2 rfl w.heap.size _ 27 _ hbY2.out rfl rfl Try.underlying27 rfl size27 ⟨_, rfl, hfin.out⟩

end Go.Proofs.Ytgkgedjmnbjalaa

/- (*Spec).kid and add: the place of a kid by names, and kids more.
   Conditions: none. -/
import Derived.Test.YtgkgedjmnbjalaaSpA
import Derived.Test.YtgkgedjmnbjalaaSpB
import Derived.Lib.QuietBelow
import Derived.BigQuiet
import Derived.Maps.AppendAt
namespace Go.Proofs.Ytgkgedjmnbjalaa
open Go.RowKit Go.Sort

/-- From a spec at (b, off) names lead to one at (b', off'). -/
inductive AtS (w : World) : Nat → Nat → List ByteArray → Nat → Nat → Prop where
  | nil (b off : Nat) : AtS w b off [] b off
  | cons (b off : Nat) (nm : ByteArray) (rest : List ByteArray) (B O kc i : Nat) (nms : List ByteArray) (x0 x1 x2 x3 x4 x5 x6 x7 : Value) (b' off' : Nat)
    (c0 : w.cell? ⟨b, off, none⟩ = some x0) (c1 : w.cell? ⟨b, off + 1, none⟩ = some x1) (c2 : w.cell? ⟨b, off + 2, none⟩ = some x2) (c3 : w.cell? ⟨b, off + 3, none⟩ = some x3)
    (c4 : w.cell? ⟨b, off + 4, none⟩ = some x4) (c5 : w.cell? ⟨b, off + 5, none⟩ = some x5) (c6 : w.cell? ⟨b, off + 6, none⟩ = some x6) (c7 : w.cell? ⟨b, off + 7, none⟩ = some x7)
    (c8 : w.cell? ⟨b, off + 8, none⟩ = some (.slice (some ⟨B, O, none⟩) nms.length kc))
    (hr : NRow w (some ⟨B, O, none⟩) nms) (hl : nms.length ≤ 140737488355328) (hi : idxOf nm nms = (i : Int)) (hlt : i < nms.length)
    (h : AtS w B (O + i * 9) rest b' off') : AtS w b off (nm :: rest) b' off'

theorem AtS.ext {w w' : World} (hx : Ext w w') {b off : Nat} {l : List ByteArray} {b' off' : Nat} (h : AtS w b off l b' off') : AtS w' b off l b' off' := by
  induction h with
  | nil b off => exact .nil b off
  | cons b off nm rest B O kc i nms x0 x1 x2 x3 x4 x5 x6 x7 b' off' c0 c1 c2 c3 c4 c5 c6 c7 c8 hr hl hi hlt _ ih =>
    exact .cons b off nm rest B O kc i nms x0 x1 x2 x3 x4 x5 x6 x7 b' off' (Ext.cell hx c0) (Ext.cell hx c1) (Ext.cell hx c2) (Ext.cell hx c3) (Ext.cell hx c4) (Ext.cell hx c5) (Ext.cell hx c6) (Ext.cell hx c7) (Ext.cell hx c8) (hr.ext hx) hl hi hlt ih

theorem ext_regrown (w : World) (d : Nat) (os : Array Obj) : Ext w (grow (redrawn w d) os) := below_regrown w d os

set_option maxHeartbeats 2000000 in
theorem sp_kid (l : List ByteArray) (A : Option Addr) (c b off b' off' : Nat) (w : World) (hl : l.length ≤ 1000)
    (hr : ∀ i nm, l[i]? = some nm → ∃ p o, A = some ⟨p, o, none⟩ ∧ w.cell? ⟨p, o + i, none⟩ = some (.string nm)) (h : AtS w b off l b' off') :
    Calls Try.prog 136 #[.pointer (some ⟨b, off, none⟩), .slice A l.length c] w fun e w' => e = .returned (.pointer (some ⟨b', off', none⟩)) ∧ Ext w w' := by
  have hr2 := Hd.mk hr
  clear hr
  go_enter Try.func136, Try.ntmps136
  go_wp2_with fail
  go_loopg [0, 9] (l.length + 1) (fun q s i wr => ∃ j b1 off1 : Nat, j ≤ l.length ∧ Hd (q = l.length + 1 - j) ∧ i = .int .i64 j ∧ s = .pointer (some ⟨b1, off1, none⟩) ∧ Ext w wr ∧ Hd (AtS wr b1 off1 (l.drop j) b' off'))
  case atStart => exact ⟨0, b, off, Nat.zero_le _, ⟨by omega⟩, rfl, rfl, Ext.refl _, ⟨h⟩⟩
  case round =>
  obtain ⟨j, b1, off1, hj, hq, rfl, rfl, hx, hI⟩ := hrel
  by_cases hlt : j < l.length
  · have hI2 := hI.out
    obtain ⟨p, o, rfl, hc⟩ := hr2.out j _ (List.getElem?_eq_getElem hlt)
    rw [List.drop_eq_getElem_cons hlt] at hI2
    have hc1 := Ext.cell hx hc
    clear hI h hc
    generalize l[j] = x at *
    cases hI2 with
    | cons _ _ _ _ B O kc i nms x0 x1 x2 x3 x4 x5 x6 x7 _ _ c0 c1 c2 c3 c4 c5 c6 c7 c8 hrr hll hii hil hat =>
    have hat2 := Hd.mk hat
    have hr3 := Hd.mk hrr
    have hi3 := Hd.mk hii
    clear hat hrr hii
    go_wp2_with fail
    have k0 := cell_regrown c0
    have k1 := cell_regrown c1
    have k2 := cell_regrown c2
    have k3 := cell_regrown c3
    have k4 := cell_regrown c4
    have k5 := cell_regrown c5
    have k6 := cell_regrown c6
    have k7 := cell_regrown c7
    have k8 := cell_regrown c8
    clear c0 c1 c2 c3 c4 c5 c6 c7 c8 hc1
    have cF : ∀ d os, Calls Try.prog 31 #[.agg #[x0, x1, x2, x3, x4, x5, x6, x7, .slice (some ⟨B, O, none⟩) nms.length kc], .string x] (grow (redrawn wr d) os)
      fun e w'' => e = .returned (.int .i64 (i : Int)) ∧ ∃ p : Regrown, w'' = grow (redrawn wr p.d) p.os :=
      fun d os => Calls.regrown_of ((sp_find x nms _ kc x0 x1 x2 x3 x4 x5 x6 x7 _ hll (hr3.out.ext (ext_regrown _ _ _))).mono fun e w' hh => ⟨by rw [hh.1, hi3.out], hh.2⟩)
    refine wp_region_quiet_below (by kernel_rfl) (by kernel_rfl) ?_
    repeat (quiet_step (exact cF _ _))
    refine wpQuiet_nil ?_
    intro _ hw'
    obtain ⟨⟨dq, osq⟩, hw''⟩ := hw'
    subst hw''
    have hx2 := hx.trans (ext_regrown wr dq osq)
    have hat3 := Hd.mk (hat2.out.ext (ext_regrown wr dq osq))
    clear cF k0 k1 k2 k3 k4 k5 k6 k7 k8
    generalize grow (redrawn wr dq) osq = w2 at *
    go_wp2_with fail
    go_roundg (l.length + 1 - (j + 1))
    case measure => have := hq.out; omega
    case rel => exact ⟨j + 1, _, _, by omega, ⟨rfl⟩, by go_num, rfl, hx2, hat3⟩
  · have hjl : j = l.length := by omega
    have hI2 := hI.out
    rw [hjl, List.drop_length] at hI2
    clear hjl hI h
    cases hI2
    go_wp2_with fail
    go_ret
    exact ⟨rfl, hx⟩

/-- What add leaves: the row longer by one, in its own block or in a new one. -/
def AddPost (b off n B : Nat) (xs ds : List Value) (w w' : World) : Prop :=
  ∃ w1 N cap sp, w' = w1.setCell ⟨b, off + 8, none⟩ (.slice (some ⟨N, 0, none⟩) (n + 1) cap) ∧ w.grownBy w1 (some B) ∧ Blk w1 N (xs ++ ds ++ sp) 27 ∧ (N = B ∨ N = w.heap.size)

set_option maxHeartbeats 1000000 in
theorem sp_add (b off B n D dc : Nat) (xs ds : List Value) (w : World) (h8 : w.cell? ⟨b, off + 8, none⟩ = some (.slice (some ⟨B, 0, none⟩) n n)) (hf8 : w.frozen? ⟨b, off + 8, none⟩ = false)
    (hB : Blk w B xs 27) (hxs : xs.length = n * 9) (hbB : b ≠ B) (hD : Blk w D ds 27) (hds : ds.length = 9) (h1 : ds.all (·.oneCell') = true) (hn : n ≤ 100) :
    Calls Try.prog 137 #[.pointer (some ⟨b, off, none⟩), .slice (some ⟨D, 0, none⟩) 1 dc] w fun e w' => e = .returned (.tuple #[]) ∧ AddPost b off n B xs ds w w' := by
  have hB2 := Hd.mk hB
  have hD2 := Hd.mk hD
  have hx2 := Hd.mk hxs
  have hd2 := Hd.mk hds
  have h12 := Hd.mk h1
  clear hB hD hxs hds h1
  have hblt := Hd.mk (World.block_lt_of_cell? w _ h8)
  go_enter Try.func137, Try.ntmps137
  go_wp2_with ((with_reducible refine at_op (.call { callee := .builtin .append, args := #[.tmp 8, .tmp 9], argTypes := #[25, 25] }) ?_); refine wpl_append sl25 (by omega) (by omega) (.tmp 8) (.tmp 9) 10 _ _ _ 0 (.slice (some ⟨B, 0, none⟩) n n) n xs rfl (own_intro (sp := []) (Nat.zero_le _) (by simpa using hB2.out) (Nat.le_refl _) (by simp only [maxLen]; omega) (by simpa using hx2.out) hx2.out) D 0 1 dc ds rfl hd2.out (fun j u hj => by rw [Nat.zero_add, hD2.out.cell]; exact hj) h12.out (by omega) (Nat.zero_le _) ?_; intro v1 w1 hown hgr hat; obtain ⟨N, cap1, sp1, rfl, _, hb1, _, _, _⟩ := own_form hown (by omega); have hgr3 : w.grownBy w1 (some B) := hgr; have hgr2 := Hd.mk hgr3; have hat2 := Hd.mk (own_at hat); have g8 := hgr3.cell h8 (by simpa using hbB); have gf8 := (World.grownBy.free hgr3 (a := ⟨b, off + 8, none⟩) hblt.out (by simpa using hbB)).trans hf8; have hb2 := Hd.mk hb1; clear hb1 hown hgr hgr3 hat)
  go_end0
  exact ⟨rfl, w1, N, cap1, sp1, rfl, hgr2.out, hb2.out, hat2.out⟩
end Go.Proofs.Ytgkgedjmnbjalaa

/- spec.Find: which kid of a name a spec has.
   Conditions: none. -/
import Derived.Test.YtgkgedjmnbjalaaMem
namespace Go.Proofs.Ytgkgedjmnbjalaa
open Go.RowKit

/-- A row of nine-cell elements whose first cells are these names. -/
def NRow (w : World) (A : Option Addr) (nms : List ByteArray) : Prop :=
  ∀ i nm, nms[i]? = some nm → ∃ b off x1 x2 x3 x4 x5 x6 x7 x8, A = some ⟨b, off, none⟩ ∧ w.cell? ⟨b, off + i * 9, none⟩ = some (.string nm) ∧
    w.cell? ⟨b, off + i * 9 + 1, none⟩ = some x1 ∧ w.cell? ⟨b, off + i * 9 + 2, none⟩ = some x2 ∧ w.cell? ⟨b, off + i * 9 + 3, none⟩ = some x3 ∧ w.cell? ⟨b, off + i * 9 + 4, none⟩ = some x4 ∧
    w.cell? ⟨b, off + i * 9 + 5, none⟩ = some x5 ∧ w.cell? ⟨b, off + i * 9 + 6, none⟩ = some x6 ∧ w.cell? ⟨b, off + i * 9 + 7, none⟩ = some x7 ∧ w.cell? ⟨b, off + i * 9 + 8, none⟩ = some x8
theorem NRow.ext {w w' : World} (hx : Ext w w') {A : Option Addr} {nms : List ByteArray} (h : NRow w A nms) : NRow w' A nms := by
  intro i nm hi
  obtain ⟨b, off, x1, x2, x3, x4, x5, x6, x7, x8, hA, h0, h1, h2, h3, h4, h5, h6, h7, h8⟩ := h i nm hi
  exact ⟨b, off, x1, x2, x3, x4, x5, x6, x7, x8, hA, Ext.cell hx h0, Ext.cell hx h1, Ext.cell hx h2, Ext.cell hx h3, Ext.cell hx h4, Ext.cell hx h5, Ext.cell hx h6, Ext.cell hx h7, Ext.cell hx h8⟩

/-- Go's IndexFunc over names. -/
def idxFrom (nm : ByteArray) : Nat → List ByteArray → Int
  | _, [] => -1
  | i, x :: xs => if x = nm then (i : Int) else idxFrom nm (i + 1) xs
def idxOf (nm : ByteArray) (xs : List ByteArray) : Int := idxFrom nm 0 xs

theorem sp_find1 (nm x : ByteArray) (x1 x2 x3 x4 x5 x6 x7 x8 : Value) (b : Nat) (w : World) (h : w.cell? ⟨b, 0, none⟩ = some (.string nm)) :
    Calls Try.prog 91 #[.agg #[.string x, x1, x2, x3, x4, x5, x6, x7, x8], .pointer (some ⟨b, 0, none⟩)] w fun e w' => e = .returned (.bool (decide (x = nm))) ∧ Ext w w' := by
  have hb := World.block_lt_of_cell? w _ h
  simp only at hb
  go_enter Try.func91, Try.ntmps91
  go_wp2_with fail
  go_ret
  exact ⟨ret_bool (str_eq _ _), Ext.alloc _ _⟩

set_option maxHeartbeats 1000000 in
theorem sp_indexFunc (nm : ByteArray) (nms : List ByteArray) (A : Option Addr) (c b1 : Nat) (w : World) (hl : nms.length ≤ 140737488355328)
    (hr : NRow w A nms) (h : w.cell? ⟨b1, 0, none⟩ = some (.string nm)) :
    Calls Try.prog 90 #[.slice A nms.length c, .func (.func 91) #[] #[.pointer (some ⟨b1, 0, none⟩)]] w fun e w' => e = .returned (.int .i64 (idxOf nm nms)) ∧ Ext w w' := by
  have hr2 := Hd.mk hr
  have h2 := Hd.mk h
  clear hr h
  go_enter Try.func90, Try.ntmps90
  go_wp2_with fail
  go_loopg [8] (nms.length + 1) (fun q i wr => ∃ j : Nat, j ≤ nms.length ∧ Hd (q = nms.length + 1 - j) ∧ i = .int .i64 j ∧ Ext w wr ∧ Hd (idxOf nm nms = idxFrom nm j (nms.drop j)))
  case atStart => exact ⟨0, Nat.zero_le _, ⟨by omega⟩, rfl, Ext.refl _, ⟨rfl⟩⟩
  case round =>
  obtain ⟨j, hj, hq, rfl, hx, hI⟩ := hrel
  by_cases hlt : j < nms.length
  · obtain ⟨b, off, x1, x2, x3, x4, x5, x6, x7, x8, rfl, g0, g1, g2, g3, g4, g5, g6, g7, g8⟩ := (hr2.out.ext hx) j _ (List.getElem?_eq_getElem hlt)
    have h3 := Hd.mk (Ext.cell hx h2.out)
    have hI2 : Hd (idxOf nm nms = if nms[j] = nm then (j : Int) else idxFrom nm (j + 1) (nms.drop (j + 1))) := ⟨by rw [hI.out, List.drop_eq_getElem_cons hlt]; rfl⟩
    generalize nms[j] = x at *
    go_wp2_with fail
    refine (sp_find1 nm x x1 x2 x3 x4 x5 x6 x7 x8 b1 _ h3.out).mono ?_
    rintro e w1 ⟨rfl, hx1⟩
    have hx2 := hx.trans hx1
    by_cases hxe : x = nm
    · have hI3 : Hd (idxOf nm nms = (j : Int)) := ⟨by rw [hI2.out, if_pos hxe]⟩
      clear hI hI2 g0 g1 g2 g3 g4 g5 g6 g7 g8
      have hd : decide (x = nm) = true := by simpa using hxe
      rw [hd]
      clear hd hxe
      go_wp2_with fail
      go_ret
      exact ⟨ret_int hI3.out.symm, hx2⟩
    · have hI3 : Hd (idxOf nm nms = idxFrom nm (j + 1) (nms.drop (j + 1))) := ⟨by rw [hI2.out, if_neg hxe]⟩
      have hd : decide (x = nm) = false := by simpa using hxe
      rw [hd]
      clear hd hxe hI hI2 g0 g1 g2 g3 g4 g5 g6 g7 g8
      go_wp2_with fail
      go_roundg (nms.length + 1 - (j + 1))
      case measure => have := hq.out; omega
      case rel => exact ⟨j + 1, by omega, ⟨rfl⟩, by go_num, hx2, hI3⟩
  · have hjl : j = nms.length := by omega
    have hI3 : Hd (idxOf nm nms = -1) := ⟨by rw [hI.out, hjl, List.drop_length]; rfl⟩
    clear hI hjl
    go_wp2_with fail
    go_ret
    exact ⟨ret_int hI3.out.symm, hx⟩

theorem sp_find (nm : ByteArray) (nms : List ByteArray) (K : Option Addr) (kc : Nat) (x0 x1 x2 x3 x4 x5 x6 x7 : Value) (w : World) (hl : nms.length ≤ 140737488355328) (hr : NRow w K nms) :
    Calls Try.prog 31 #[.agg #[x0, x1, x2, x3, x4, x5, x6, x7, .slice K nms.length kc], .string nm] w fun e w' => e = .returned (.int .i64 (idxOf nm nms)) ∧ Ext w w' := by
  have hr2 := Hd.mk hr
  clear hr
  go_enter Try.func31, Try.ntmps31
  go_wp2_with fail
  refine (sp_indexFunc nm nms K kc (w.heap.size + 1) _ hl ((hr2.out.ext (Ext.alloc _ _)).ext (Ext.alloc _ _)) (by simp)).mono ?_
  rintro e w1 ⟨rfl, hx1⟩
  go_wp2_with fail
  go_ret
  exact ⟨rfl, ((Ext.alloc _ _).trans (Ext.alloc _ _)).trans hx1⟩

end Go.Proofs.Ytgkgedjmnbjalaa

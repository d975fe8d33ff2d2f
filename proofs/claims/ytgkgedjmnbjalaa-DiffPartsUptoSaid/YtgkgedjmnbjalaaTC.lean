/- Size, Right, Same of the document's trees.
   Conditions: none. -/
import Derived.Test.YtgkgedjmnbjalaaTB
set_option linter.unusedSimpArgs false
namespace Go.Proofs.Ytgkgedjmnbjalaa
open Go.RowKit Go.Sort

theorem six {w w' : World} (hx : Ext w w') {b o : Nat} {x0 x1 x2 x3 x4 x5 : Value} (h : ∀ (j : Nat) v, [x0, x1, x2, x3, x4, x5][j]? = some v → w.cell? ⟨b, o + j, none⟩ = some v) :
    w'.cell? ⟨b, o, none⟩ = some x0 ∧ w'.cell? ⟨b, o + 1, none⟩ = some x1 ∧ w'.cell? ⟨b, o + 2, none⟩ = some x2 ∧ w'.cell? ⟨b, o + 3, none⟩ = some x3 ∧ w'.cell? ⟨b, o + 4, none⟩ = some x4 ∧ w'.cell? ⟨b, o + 5, none⟩ = some x5 :=
  ⟨Ext.cell hx (h 0 _ rfl), Ext.cell hx (h 1 _ rfl), Ext.cell hx (h 2 _ rfl), Ext.cell hx (h 3 _ rfl), Ext.cell hx (h 4 _ rfl), Ext.cell hx (h 5 _ rfl)⟩
theorem sizeL_take {l : List T} {j : Nat} {k : T} (h : l[j]? = some k) : sizeL (l.take (j + 1)) = sizeL (l.take j) + k.size := by
  rw [List.take_add_one, h, sizeL_append]
  simp [sizeL]
theorem sizeL_take_le : ∀ (l : List T) (j : Nat), sizeL (l.take j) ≤ sizeL l
  | [], j => by simp
  | t :: l, 0 => by simp [sizeL]
  | t :: l, j + 1 => by have := sizeL_take_le l j; simp [sizeL]; omega

set_option maxRecDepth 100000 in
set_option maxHeartbeats 4000000 in
theorem ref_size : ∀ (n : Nat) (t : T) (S : Nat → Prop) (w : World) (c : List Value), t.size ≤ n → t.size ≤ 1048576 → RT S w t c →
    Calls Try.prog 64 #[.agg c.toArray] w fun e w' => e = .returned (.int .i64 (t.size : Nat)) ∧ Ext w w'
  | 0, t, S, w, c, hn, _, _ => by have := size_pos t; omega
  | n + 1, t, S, w, c, hn, hb, h => by
    obtain ⟨K, kc, rfl, hrow⟩ := h.row
    have kr := Hd.mk hrow
    have kn := Hd.mk hn
    have hsz := t.size_eq
    have hlen := sizeL_len t.kids
    have hlb := hrow.len
    have ih := Hd.mk (ref_size n)
    clear hrow h hn
    simp only [cT]
    go_enter Try.func64, Try.ntmps64
    go_wp2_with fail
    have kA := Hd.mk (Blk.new w #[.string t.name, .string t.key, .int .i64 t.kind, .int .u64 t.num, .string t.text, .slice K t.kids.length kc] 54)
    have kx := Hd.mk (Ext.alloc w (.cells #[.string t.name, .string t.key, .int .i64 t.kind, .int .u64 t.num, .string t.text, .slice K t.kids.length kc] 54))
    generalize w.heap.size = pA at *
    generalize w.alloc _ = W at *
    go_loopg [3, 4] (t.kids.length + 1) (fun q m i wr => ∃ j : Nat, j ≤ t.kids.length ∧ Hd (q = t.kids.length + 1 - j) ∧ i = .int .i64 j ∧ m = .int .i64 ((1 + sizeL (t.kids.take j) : Nat)) ∧ Hd (Ext W wr))
    case atStart => exact ⟨0, by omega, ⟨by omega⟩, rfl, rfl, ⟨Ext.refl _⟩⟩
    case round =>
    obtain ⟨j, hj, hq, rfl, rfl, hxr⟩ := hrel
    have gA := (kA.out.ext hxr.out).cell
    by_cases hlt : j < t.kids.length
    · have hkj := List.getElem?_eq_getElem hlt
      generalize t.kids[j] = k at hkj
      obtain ⟨b, off, ck, rfl, _, hrk, hck⟩ := kr.out.kid j k hkj
      obtain ⟨K', kc', rfl, _⟩ := hrk.row
      obtain ⟨e0, e1, e2, e3, e4, e5⟩ := six (kx.out.trans hxr.out) hck
      have hks := kid_size hkj
      have hst := Hd.mk (sizeL_take hkj)
      have hsl := sizeL_take_le t.kids (j + 1)
      rw [hst.out] at hsl
      have hcall := Hd.mk (fun w h => ih.out k S w _ (by have := kn.out; omega) (by omega) (hrk.ext h))
      simp only [cT] at hcall
      clear hck hrk hkj hks
      generalize sizeL (t.kids.take j) = z at *
      go_wp2_with fail
      refine (hcall.out wr (kx.out.trans hxr.out)).mono ?_
      rintro e w2 ⟨rfl, hx2⟩
      have hx2 := Hd.mk (hxr.out.trans hx2)
      have gA := (kA.out.ext hx2.out).cell
      go_wp2_with fail
      go_roundg (t.kids.length + 1 - (j + 1))
      case measure => have := hq.out; omega
      case rel => exact ⟨j + 1, by omega, ⟨rfl⟩, by go_num, by rw [hst.out]; go_num, hx2⟩
    · have hjl : j = t.kids.length := by omega
      subst hjl
      rw [List.take_length]
      go_wp2_with fail
      go_ret
      exact ⟨ret_int (by omega), kx.out.trans hxr.out⟩
end Go.Proofs.Ytgkgedjmnbjalaa

/- Same and Under of the program's edits.
   Conditions: none. -/
import Derived.Test.YtgkgedjmnbjalaaTU
set_option linter.unusedSimpArgs false
namespace Go.Proofs.Ytgkgedjmnbjalaa
open Go.RowKit Go.Sort

theorem c14C {w w' : World} (hx : Ext w w') {b o : Nat} {x0 x1 x2 x3 x4 x5 x6 x7 x8 x9 x10 x11 x12 x13 : Value} (h : ∀ (j : Nat) v, [x0, x1, x2, x3, x4, x5, x6, x7, x8, x9, x10, x11, x12, x13][j]? = some v → w.cell? ⟨b, o + j, none⟩ = some v) :
    w'.cell? ⟨b, o, none⟩ = some x0 ∧ w'.cell? ⟨b, o + 1, none⟩ = some x1 ∧ w'.cell? ⟨b, o + 2, none⟩ = some x2 ∧ w'.cell? ⟨b, o + 3, none⟩ = some x3 ∧ w'.cell? ⟨b, o + 4, none⟩ = some x4 ∧ w'.cell? ⟨b, o + 5, none⟩ = some x5 ∧ w'.cell? ⟨b, o + 6, none⟩ = some x6 ∧
      w'.cell? ⟨b, o + 7, none⟩ = some x7 ∧ w'.cell? ⟨b, o + 8, none⟩ = some x8 ∧ w'.cell? ⟨b, o + 9, none⟩ = some x9 ∧ w'.cell? ⟨b, o + 10, none⟩ = some x10 ∧ w'.cell? ⟨b, o + 11, none⟩ = some x11 ∧ w'.cell? ⟨b, o + 12, none⟩ = some x12 ∧ w'.cell? ⟨b, o + 13, none⟩ = some x13 :=
  ⟨Ext.cell hx (h 0 _ rfl), Ext.cell hx (h 1 _ rfl), Ext.cell hx (h 2 _ rfl), Ext.cell hx (h 3 _ rfl), Ext.cell hx (h 4 _ rfl), Ext.cell hx (h 5 _ rfl), Ext.cell hx (h 6 _ rfl), Ext.cell hx (h 7 _ rfl), Ext.cell hx (h 8 _ rfl), Ext.cell hx (h 9 _ rfl), Ext.cell hx (h 10 _ rfl), Ext.cell hx (h 11 _ rfl), Ext.cell hx (h 12 _ rfl), Ext.cell hx (h 13 _ rfl)⟩

set_option maxRecDepth 100000 in
set_option maxHeartbeats 4000000 in
theorem edits_equal (l l' : List E) (S : Nat → Prop) (w : World) (K1 K2 : Option Addr) (c1 c2 : Nat) (hr1 : ERow S w K1 l c1) (hr2 : ERow S w K2 l' c2) :
    Calls Try.prog 106 #[.slice K1 l.length c1, .slice K2 l'.length c2, .func (.func 107) #[] #[]] w fun e w' => e = .returned (.bool (sameEL l l')) ∧ Ext w w' := by
  have kr1 := Hd.mk hr1
  have kr2 := Hd.mk hr2
  have hl2 := hr2.len
  have hl1 := hr1.len
  clear hr1 hr2
  generalize hr : sameEL l l' = r
  by_cases h6 : l.length = l'.length
  · rw [h6]
    replace h6 := Hd.mk h6
    clear hl1
    replace hr := Hd.mk (show r = sameEL (l.drop 0) (l'.drop 0) from hr.symm)
    go_enter Try.func106, Try.ntmps106
    go_wp2_with fail
    go_loopg [17] (l'.length + 1) (fun q i wr => ∃ j : Nat, j ≤ l'.length ∧ Hd (q = l'.length + 1 - j) ∧ i = .int .i64 j ∧ Hd (r = sameEL (l.drop j) (l'.drop j)) ∧ Hd (Ext w wr))
    case atStart => exact ⟨0, by omega, ⟨by omega⟩, rfl, hr, ⟨Ext.refl _⟩⟩
    case round =>
    obtain ⟨j, hj, hq, rfl, hI, hxr⟩ := hrel
    by_cases hlt : j < l'.length
    · have hlt1 : j < l.length := by have := h6.out; omega
      have hx1 := List.getElem?_eq_getElem hlt1
      have hx2 := List.getElem?_eq_getElem hlt
      generalize l[j] = x at hx1
      generalize l'[j] = y at hx2
      obtain ⟨b1, o1, ck, rfl, _, hrk, hck⟩ := kr1.out.edit j x hx1
      obtain ⟨b2, o2, dk, rfl, _, hrd, hdk⟩ := kr2.out.edit j y hx2
      have hcall := Hd.mk (fun W' (h : Ext w W') => diff_same1 x y S W' _ _ (hrk.ext h) (hrd.ext h))
      have hdrop := Hd.mk (sameEL_drop hx1 hx2)
      obtain ⟨A1, a1, K3, k3, L3, l3, rfl, _⟩ := hrk
      obtain ⟨A2, a2, K4, k4, L4, l4, rfl, _⟩ := hrd
      obtain ⟨e0, e1, e2, e3, e4, e5, e6, e7, e8, e9, e10, e11, e12, e13⟩ := c14C hxr.out hck
      obtain ⟨f0, f1, f2, f3, f4, f5, f6, f7, f8, f9, f10, f11, f12, f13⟩ := c14C hxr.out hdk
      have lt1 := World.block_lt_of_cell? wr _ e0
      have lt2 := World.block_lt_of_cell? wr _ f0
      clear hck hdk hx1 hx2
      simp only [cT, List.cons_append, List.nil_append] at hcall
      go_wp2_with fail
      have hx2 := Hd.mk (hxr.out.trans ((Ext.alloc wr (.cells #[.int .i64 x.kind, .slice A1 x.way.length a1, .string x.node.name, .string x.node.key, .int .i64 x.node.kind, .int .u64 x.node.num, .string x.node.text, .slice K3 x.node.kids.length k3, .string x.old.name, .string x.old.key, .int .i64 x.old.kind, .int .u64 x.old.num, .string x.old.text, .slice L3 x.old.kids.length l3] 68)).trans (Ext.alloc _ (.cells #[.int .i64 y.kind, .slice A2 y.way.length a2, .string y.node.name, .string y.node.key, .int .i64 y.node.kind, .int .u64 y.node.num, .string y.node.text, .slice K4 y.node.kids.length k4, .string y.old.name, .string y.old.key, .int .i64 y.old.kind, .int .u64 y.old.num, .string y.old.text, .slice L4 y.old.kids.length l4] 68))))
      refine Calls.mono (hcall.out _ hx2.out) ?_
      rintro e w2 ⟨rfl, hx3⟩
      clear hcall e0 e1 e2 e3 e4 e5 e6 e7 e8 e9 e10 e11 e12 e13 f0 f1 f2 f3 f4 f5 f6 f7 f8 f9 f10 f11 f12 f13
      have hxr3 := Hd.mk (hx2.out.trans hx3)
      clear hx3
      cases hs : sameE x y with
      | true =>
        go_wp2_with fail
        go_roundg (l'.length + 1 - (j + 1))
        case measure => have := hq.out; omega
        case rel => exact ⟨j + 1, by omega, ⟨rfl⟩, by go_num, ⟨by rw [hI.out, hdrop.out, hs]; rfl⟩, hxr3⟩
      | false =>
        have hr0 : r = false := by rw [hI.out, hdrop.out, hs]; rfl
        subst hr0
        go_wp2_with fail
        go_ret
        exact ⟨rfl, hxr3.out⟩
    · have hjl : j = l'.length := by omega
      subst hjl
      have hr0 : r = true := by rw [hI.out, ← h6.out, List.drop_length, h6.out, List.drop_length]; rfl
      subst hr0
      go_wp2_with fail
      go_ret
      exact ⟨rfl, hxr.out⟩
  · have hr0 : r = false := by
      cases hs : r with
      | false => rfl
      | true => rw [hs] at hr; exact absurd (sameEL_len _ _ hr) h6
    subst hr0
    have h6' : ((l.length : Int) != (l'.length : Int)) = true := by rw [bne_iff_ne]; omega
    clear hr
    go_enter Try.func106, Try.ntmps106
    go_wp2_with fail
    go_ret
    exact ⟨rfl, Ext.refl _⟩

set_option maxHeartbeats 1000000 in
theorem diff_same (l l' : List E) (S : Nat → Prop) (w : World) (K1 K2 : Option Addr) (c1 c2 : Nat) (hr1 : ERow S w K1 l c1) (hr2 : ERow S w K2 l' c2) :
    Calls Try.prog 47 #[.slice K1 l.length c1, .slice K2 l'.length c2] w fun e w' => e = .returned (.bool (sameEL l l')) ∧ Ext w w' := by
  have hc := Hd.mk (edits_equal l l' S w K1 K2 c1 c2 hr1 hr2)
  clear hr1 hr2
  go_enter Try.func47, Try.ntmps47
  go_wp2_with fail
  refine Calls.mono hc.out ?_
  rintro e w1 ⟨rfl, hx⟩
  have hx := Hd.mk hx
  go_wp2_with fail
  go_ret
  exact ⟨rfl, hx.out⟩
end Go.Proofs.Ytgkgedjmnbjalaa

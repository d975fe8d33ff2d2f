/- The document's Same on trees that are the same.
   Conditions: none. -/
import Derived.Test.YtgkgedjmnbjalaaSpV
set_option linter.unusedSimpArgs false
namespace Go.Proofs.Ytgkgedjmnbjalaa
open Go.RowKit Go.Sort

theorem kid_cells {E : TypeId} {base : Nat} {w : World} {kids : List Sp} {K : Option Addr} {css : List (List Value)} (hK : kids ≠ [] → ∃ b sp, K = some ⟨b, 0, none⟩ ∧ base ≤ b ∧ Blk w b (css.flatten ++ sp) E) (h9 : ∀ c ∈ css, c.length = 9) (hl : css.length = kids.length)
    (hr : ∀ (i : Nat) k c, kids[i]? = some k → css[i]? = some c → RepS E base w k c) {j : Nat} {k : Sp} (hk : kids[j]? = some k) :
    ∃ b ck, css[j]? = some ck ∧ K = some ⟨b, 0, none⟩ ∧ RepS E base w k ck ∧ ∀ i v, ck[i]? = some v → w.cell? ⟨b, j * 9 + i, none⟩ = some v := by
  have hlt := (List.getElem?_eq_some_iff.1 hk).1
  obtain ⟨b, sp, rfl, hle, hb⟩ := hK (by rintro rfl; simp at hlt)
  obtain ⟨ck, hc⟩ : ∃ ck, css[j]? = some ck := ⟨_, List.getElem?_eq_getElem (show j < css.length by rw [hl]; exact hlt)⟩
  refine ⟨b, ck, hc, rfl, hr j k ck hk hc, fun i v hv => ?_⟩
  have h1 := flatten_get css h9 j _ hc i v hv
  rw [hb.cell, List.getElem?_append_left (List.getElem?_eq_some_iff.1 h1).1]
  exact h1

set_option maxRecDepth 100000 in
set_option maxHeartbeats 4000000 in
theorem same_any {b1 : Nat} {w1 : World} {s : Sp} {c : List Value} (h : RepS 33 b1 w1 s c) : ∀ (b2 : Nat) (w : World) (d : List Value), RepS 33 b2 w s d → Ext w1 w →
    Calls Try.prog 29 #[.agg c.toArray, .agg d.toArray] w fun e w' => e = .returned (.bool true) ∧ Ext w w' := by
  induction h with
  | mk nm kind ty mn mx names must most kids N nc K kc css hN hK h9 hl hr hb ih =>
    intro b2 w d h2 hx0
    obtain ⟨N2, nc2, K2, kc2, rfl, q1, q2, q3, q4⟩ := h2.kid
    obtain ⟨N1, nc1, K1, kc1, he, p1, p2, p3, p4⟩ := ((RepS.mk nm kind ty mn mx names must most kids N nc K kc css hN hK h9 hl hr hb).ext hx0).kid
    simp only [cSpec, List.cons.injEq, Value.slice.injEq, true_and, and_true] at he
    obtain ⟨⟨rfl, rfl⟩, rfl, rfl⟩ := he
    have kih := Hd.mk ih
    have kkid := Hd.mk (fun (j : Nat) k (hk : kids[j]? = some k) => kid_cells hK h9 hl hr hk)
    have kx0 := Hd.mk hx0
    have kp3 := Hd.mk p3
    have kq3 := Hd.mk q3
    have kq4 := Hd.mk q4
    have hb2 := hb.2
    clear hN hK h9 hl hr hb ih hx0 p3 q3 p4 q4 h2
    simp only [cSpec]
    go_enter Try.func29, Try.ntmps29
    go_wp2_with fail
    have kx1 := Hd.mk ((Ext.alloc w (.cells #[.string nm, .int .i64 kind, .int .i64 ty, .int .u64 mn, .int .u64 mx, .slice N names.length nc, .bool must, .int .i64 most, .slice K kids.length kc] 33)).trans (Ext.alloc _ (.cells #[.string nm, .int .i64 kind, .int .i64 ty, .int .u64 mn, .int .u64 mx, .slice N2 names.length nc2, .bool must, .int .i64 most, .slice K2 kids.length kc2] 33)))
    have ka := Hd.mk ((Blk.new w #[.string nm, .int .i64 kind, .int .i64 ty, .int .u64 mn, .int .u64 mx, .slice N names.length nc, .bool must, .int .i64 most, .slice K kids.length kc] 33).alloc (.cells #[.string nm, .int .i64 kind, .int .i64 ty, .int .u64 mn, .int .u64 mx, .slice N2 names.length nc2, .bool must, .int .i64 most, .slice K2 kids.length kc2] 33))
    have kb := Hd.mk (Blk.new2 w (.cells #[.string nm, .int .i64 kind, .int .i64 ty, .int .u64 mn, .int .u64 mx, .slice N names.length nc, .bool must, .int .i64 most, .slice K kids.length kc] 33) #[.string nm, .int .i64 kind, .int .i64 ty, .int .u64 mn, .int .u64 mx, .slice N2 names.length nc2, .bool must, .int .i64 most, .slice K2 kids.length kc2] 33)
    generalize (w.alloc (.cells #[.string nm, .int .i64 kind, .int .i64 ty, .int .u64 mn, .int .u64 mx, .slice N names.length nc, .bool must, .int .i64 most, .slice K kids.length kc] 33)).alloc (.cells #[.string nm, .int .i64 kind, .int .i64 ty, .int .u64 mn, .int .u64 mx, .slice N2 names.length nc2, .bool must, .int .i64 most, .slice K2 kids.length kc2] 33) = W1 at *
    go_loopg [5] (names.length + 1) (fun q i wr => ∃ j : Nat, j ≤ names.length ∧ Hd (q = names.length + 1 - j) ∧ i = .int .i64 j ∧ Hd (Ext w wr) ∧ Hd (Ext W1 wr))
    case atStart => exact ⟨0, Nat.zero_le _, ⟨by omega⟩, rfl, kx1, ⟨Ext.refl _⟩⟩
    case round =>
      obtain ⟨j, hj, hq, rfl, hxr, hx1⟩ := hrel
      have ga := (ka.out.ext hx1.out).cell
      have gb := (kb.out.ext hx1.out).cell
      by_cases hlt : j < names.length
      · obtain ⟨p, rfl, n1⟩ := kp3.out j _ (List.getElem?_eq_getElem hlt)
        obtain ⟨q, rfl, n2⟩ := kq3.out j _ (List.getElem?_eq_getElem hlt)
        have n1' := Ext.cell hxr.out n1
        have n2' := Ext.cell hxr.out n2
        rw [Nat.zero_add] at n1' n2'
        clear n1 n2
        generalize names[j] = x at *
        go_wp2_with fail
        have k1 := cell_regrown n1'
        have k2 := cell_regrown n2'
        have k3 := cell_regrown ((ga 5).trans rfl)
        have k4 := cell_regrown ((gb 5).trans rfl)
        clear ga gb n1' n2'
        refine wp_region_quiet_below (by kernel_rfl) (by kernel_rfl) ?_
        repeat (quiet_step (fail))
        refine wpQuiet_nil ?_
        intro _ hw'
        obtain ⟨⟨dq, osq⟩, hw''⟩ := hw'
        subst hw''
        have hx2 := ext_regrown wr dq osq
        clear k1 k2 k3 k4
        generalize grow (redrawn wr dq) osq = w2 at *
        have hxr2 := Hd.mk (hxr.out.trans hx2)
        have hx12 := Hd.mk (hx1.out.trans hx2)
        clear hx2 hxr hx1
        go_wp2_with fail
        go_roundg (names.length + 1 - (j + 1))
        case measure => have := hq.out; omega
        case rel => exact ⟨j + 1, by omega, ⟨rfl⟩, by go_num, hxr2, hx12⟩
      · have hjl : j = names.length := by omega
        subst hjl
        go_wp2_with fail
        have ka2 := Hd.mk (ka.out.ext hx1.out)
        have kb2 := Hd.mk (kb.out.ext hx1.out)
        clear ga gb ka kb hx1 kx1
        go_loopg [6] (kids.length + 1) (fun q i wr2 => ∃ j : Nat, j ≤ kids.length ∧ Hd (q = kids.length + 1 - j) ∧ i = .int .i64 j ∧ Hd (Ext w wr2) ∧ Hd (Ext wr wr2))
        case atStart => exact ⟨0, Nat.zero_le _, ⟨by omega⟩, rfl, hxr, ⟨Ext.refl _⟩⟩
        case round =>
          obtain ⟨j, hj, hq, rfl, hxr2, hx2⟩ := hrel
          have ga := (ka2.out.ext hx2.out).cell
          have gb := (kb2.out.ext hx2.out).cell
          by_cases hlt : j < kids.length
          · have hkj := List.getElem?_eq_getElem hlt
            generalize kids[j] = k at hkj
            obtain ⟨pb, ck, hcs, rfl, hrk, hpc⟩ := kkid.out j k hkj
            obtain ⟨qb, dk, rfl, hle, hrd, hqc⟩ := kq4.out j k hkj
            have hcall := Hd.mk (fun W (hW : Ext w W) => kih.out j k ck hkj hcs b2 W dk (hrd.ext hW) (kx0.out.trans hW))
            obtain ⟨kind1, ty1, mn1, mx1, N1, nl1, nc1, must1, most1, K1, kc1, rfl⟩ := hrk.form
            obtain ⟨kind2, ty2, mn2, mx2, N2, nl2, nc2', must2, most2, K2, kc2, rfl⟩ := hrd.form
            have hx0r := kx0.out.trans hxr2.out
            have c0 := cell_regrown (Ext.cell hx0r (hpc 0 _ rfl))
            have c1 := cell_regrown (Ext.cell hx0r (hpc 1 _ rfl))
            have c2 := cell_regrown (Ext.cell hx0r (hpc 2 _ rfl))
            have c3 := cell_regrown (Ext.cell hx0r (hpc 3 _ rfl))
            have c4 := cell_regrown (Ext.cell hx0r (hpc 4 _ rfl))
            have c5 := cell_regrown (Ext.cell hx0r (hpc 5 _ rfl))
            have c6 := cell_regrown (Ext.cell hx0r (hpc 6 _ rfl))
            have c7 := cell_regrown (Ext.cell hx0r (hpc 7 _ rfl))
            have c8 := cell_regrown (Ext.cell hx0r (hpc 8 _ rfl))
            have d0 := cell_regrown (Ext.cell hxr2.out (hqc 0 _ rfl))
            have d1 := cell_regrown (Ext.cell hxr2.out (hqc 1 _ rfl))
            have d2 := cell_regrown (Ext.cell hxr2.out (hqc 2 _ rfl))
            have d3 := cell_regrown (Ext.cell hxr2.out (hqc 3 _ rfl))
            have d4 := cell_regrown (Ext.cell hxr2.out (hqc 4 _ rfl))
            have d5 := cell_regrown (Ext.cell hxr2.out (hqc 5 _ rfl))
            have d6 := cell_regrown (Ext.cell hxr2.out (hqc 6 _ rfl))
            have d7 := cell_regrown (Ext.cell hxr2.out (hqc 7 _ rfl))
            have d8 := cell_regrown (Ext.cell hxr2.out (hqc 8 _ rfl))
            simp only [Nat.add_zero] at c0 d0
            clear hrk hpc hle hrd hqc hcs hkj hx0r
            go_wp2_with fail
            have k3 := cell_regrown ((ga 8).trans rfl)
            have k4 := cell_regrown ((gb 8).trans rfl)
            have cF : ∀ d os, Calls Try.prog 29 #[.agg (cSpec k.name kind1 ty1 mn1 mx1 N1 nl1 nc1 must1 most1 K1 k.kids.length kc1).toArray, .agg (cSpec k.name kind2 ty2 mn2 mx2 N2 nl2 nc2' must2 most2 K2 k.kids.length kc2).toArray] (grow (redrawn wr d) os)
              fun e w'' => e = .returned (.bool true) ∧ ∃ p : Regrown, w'' = grow (redrawn wr p.d) p.os :=
              fun d os => Calls.regrown_of (hcall.out _ (hxr2.out.trans (ext_regrown _ _ _)))
            simp only [cSpec] at cF
            clear ga gb
            refine wp_region_quiet_below (by kernel_rfl) (by kernel_rfl) ?_
            repeat (quiet_step (exact cF _ _))
            refine wpQuiet_nil ?_
            intro _ hw'
            obtain ⟨⟨dq, osq⟩, hw''⟩ := hw'
            subst hw''
            have hx3 := ext_regrown wr dq osq
            clear cF k3 k4 c0 c1 c2 c3 c4 c5 c6 c7 c8 d0 d1 d2 d3 d4 d5 d6 d7 d8
            generalize grow (redrawn wr dq) osq = w3 at *
            have hxr3 := Hd.mk (hxr2.out.trans hx3)
            have hx13 := Hd.mk (hx2.out.trans hx3)
            clear hx3 hxr2 hx2
            go_wp2_with fail
            go_roundg (kids.length + 1 - (j + 1))
            case measure => have := hq.out; omega
            case rel => exact ⟨j + 1, by omega, ⟨rfl⟩, by go_num, hxr3, hx13⟩
          · have hjl : j = kids.length := by omega
            subst hjl
            go_wp2_with fail
            go_ret
            exact ⟨rfl, hxr2.out⟩

end Go.Proofs.Ytgkgedjmnbjalaa

/- DiffRows: the walk.
   Conditions: none. -/
import Derived.Test.YtgkgedjmnbjalaaUA
import Derived.Test.YtgkgedjmnbjalaaUB
import Derived.Test.YtgkgedjmnbjalaaUC
import Derived.Test.YtgkgedjmnbjalaaUE
set_option linter.unusedSimpArgs false
namespace Go.Proofs.Ytgkgedjmnbjalaa
open Go.RowKit Go.Sort

theorem ERow.lt {S : Nat → Prop} {w : World} {A : Option Addr} {l : List E} {c : Nat} (h : ERow S w A l c) : ERow (fun _ => True) w A l c := h.keep fun _ _ _ _ hc => ⟨trivial, hc⟩

set_option maxRecDepth 100000 in
set_option maxHeartbeats 4000000 in
theorem rows16_walk (l m : List E) (way : List Step) (w : World) (K1 K2 A : Option Addr) (c1 c2 ca : Nat) (h1 : ERow (fun _ => True) w K1 l c1) (h2 : ERow (fun _ => True) w K2 m c2) (h3 : WRow (fun _ => True) w A way ca)
    (hb1 : ∀ (i : Nat) e, l[i]? = some e → e.node.size ≤ 1048576 ∧ e.old.size ≤ 1048576) (hb2 : ∀ (i : Nat) e, m[i]? = some e → e.node.size ≤ 1048576 ∧ e.old.size ≤ 1048576) :
    Calls Try.prog 8 #[.slice K1 l.length c1, .slice K2 m.length c2, .slice A way.length ca] w fun e w' => e = .returned (.bool true) ∧ Ext w w' := by
  have hl1 := h1.len
  have hl2 := h2.len
  have hl3 := h3.len
  have hf1 := Hd.mk (fun W (h : Ext w W) => law_few l _ W K1 c1 (h1.ext h) hb1)
  have hf2 := Hd.mk (fun W (h : Ext w W) => law_few m _ W K2 c2 (h2.ext h) hb2)
  have hi1 := Hd.mk (fun W (h : Ext w W) => diff_inverse l _ W K1 c1 (h1.ext h))
  have hi2 := Hd.mk (fun W (h : Ext w W) => ref_inverse l _ W K1 c1 (h1.ext h))
  have hu1 := Hd.mk (fun W (h : Ext w W) => diff_under l way _ _ W K1 A c1 ca (h1.ext h) (h3.ext h))
  have hu2 := Hd.mk (fun W (h : Ext w W) => ref_under l way _ _ W K1 A c1 ca (h1.ext h) (h3.ext h))
  have hs1 := Hd.mk (fun W (h : Ext w W) => diff_same l m _ W K1 K2 c1 c2 (h1.ext h) (h2.ext h))
  have hs2 := Hd.mk (fun W (h : Ext w W) => ref_sameEL l m _ W K1 K2 c1 c2 (h1.ext h) (h2.ext h))
  have hs3 := Hd.mk (fun W (h : Ext w W) => diff_same l l _ W K1 K1 c1 c1 (h1.ext h) (h1.ext h))
  rw [sameEL_refl] at hs3
  have hcl := countU_le l way
  clear h1 h2 h3 hb1 hb2
  generalize countU l way = cu at *
  generalize sameEL l m = sb at *
  generalize hil : inverse l = il at *
  replace hil := Hd.mk hil
  go_enter Try.func8, Try.ntmps8
  go_wp2_with fail
  refine Calls.mono (awake16 w) ?_
  rintro e w1 ⟨rfl, hx⟩
  have kx1 := Hd.mk hx
  clear hx
  go_wp2_with fail
  refine Calls.mono (hf1.out _ kx1.out) ?_
  rintro e w2 ⟨⟨b1, rfl⟩, hx⟩
  have kx2 := Hd.mk (kx1.out.trans hx)
  clear hx kx1 hf1
  go_wp2_with fail
  refine Calls.mono (hf2.out _ kx2.out) ?_
  rintro e w3 ⟨⟨b2, rfl⟩, hx⟩
  have kx3 := Hd.mk (kx2.out.trans hx)
  clear hx kx2 hf2
  cases b1 with
  | false =>
    go_wp2_with fail
    go_ret
    exact ⟨rfl, kx3.out⟩
  | true =>
    cases b2 with
    | false =>
      go_wp2_with fail
      go_ret
      exact ⟨rfl, kx3.out⟩
    | true =>
      by_cases hwl : 20 < way.length
      · go_wp2_with fail
        go_ret
        exact ⟨rfl, kx3.out⟩
      · go_wp2_with fail
        refine Calls.mono (hi1.out _ kx3.out) ?_
        rintro e w4 ⟨_, rfl, A4, c4, rfl, hr4, hx⟩
        have kx4 := Hd.mk (kx3.out.trans hx)
        replace hr4 := Hd.mk hr4
        clear hx kx3 hi1
        go_wp2_with fail
        refine Calls.mono (hi2.out _ kx4.out) ?_
        rintro e w5 ⟨_, rfl, A5, c5, rfl, hr5, hx⟩
        have kx5 := Hd.mk (kx4.out.trans hx)
        have hsi := ref_sameEL il il _ w5 A4 A5 c4 c5 (hr4.out.ext hx) hr5
        rw [sameEL_refl] at hsi
        replace hsi := Hd.mk hsi
        have hl4 := hr5.len
        clear hx kx4 hi2 hr4 hr5
        go_wp2_with fail
        refine Calls.mono hsi.out ?_
        rintro e w6 ⟨rfl, hx⟩
        have kx6 := Hd.mk (kx5.out.trans hx)
        clear hx kx5 hsi
        go_wp2_with fail
        refine Calls.mono (hu1.out _ kx6.out) ?_
        rintro e w7 ⟨rfl, hx⟩
        have kx7 := Hd.mk (kx6.out.trans hx)
        clear hx kx6 hu1
        go_wp2_with fail
        refine Calls.mono (hu2.out _ kx7.out) ?_
        rintro e w8 ⟨rfl, hx⟩
        have kx8 := Hd.mk (kx7.out.trans hx)
        clear hx kx7 hu2
        go_wp2_with fail
        refine Calls.mono (hs1.out _ kx8.out) ?_
        rintro e w9 ⟨rfl, hx⟩
        have kx9 := Hd.mk (kx8.out.trans hx)
        clear hx kx8 hs1
        go_wp2_with fail
        refine Calls.mono (hs2.out _ kx9.out) ?_
        rintro e w10 ⟨rfl, hx⟩
        have kx10 := Hd.mk (kx9.out.trans hx)
        clear hx kx9 hs2
        go_wp2_with fail
        refine Calls.mono (hs3.out _ kx10.out) ?_
        rintro e w11 ⟨rfl, hx⟩
        have kx11 := Hd.mk (kx10.out.trans hx)
        clear hx kx10 hs3
        go_wp2_with fail
        go_ret
        exact ⟨rfl, kx11.out⟩
end Go.Proofs.Ytgkgedjmnbjalaa

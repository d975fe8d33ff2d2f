/- Texts that the law needs, joined.
   Conditions: none. -/
import Derived.Test.YtgkgedjmnbjalaaZeL
import Derived.Test.YtgkgedjmnbjalaaZeF
import Derived.Test.YtgkgedjmnbjalaaZeE
import Derived.Laws.Cover1
import Derived.Test.YtgkgedjmnbjalaaZeH
import Derived.Test.YtgkgedjmnbjalaaZeD
import Derived.Test.YtgkgedjmnbjalaaZeC
import Derived.Test.YtgkgedjmnbjalaaZeJ
import Derived.Test.YtgkgedjmnbjalaaZeB
import Derived.Test.YtgkgedjmnbjalaaZeI
import Derived.Test.YtgkgedjmnbjalaaZeA
import Derived.Test.YtgkgedjmnbjalaaZeG
set_option linter.unusedSimpArgs false
set_option linter.unusedVariables false
namespace Go.Proofs.Ytgkgedjmnbjalaa
open Go.RowKit Go.Sort
def Chain (l : List Pe) (n : Nat) (ts : Nat → T) : Prop := ∀ j, j < n → ∃ x, l[l.length - (j + 1)]? = some x ∧ applyT (ts j) x.1 0 = (ts (j + 1), 0, 0) ∧ rightT (ts j) = true ∧ (∀ e ∈ x.1, e.kind ≠ 2 → rightT e.node = true) ∧ (ts j).size + sizeE x.1 ≤ 1048576
def AtPost (t : T) (w w' : World) (v : Value) : Prop := ∃ c : List Value, v = .tuple #[.agg c.toArray, .int .i64 0] ∧ RF (fun b => w.heap.size ≤ b) w' t c ∧ Ext w w'
set_option maxRecDepth 100000 in
set_option maxHeartbeats 1000000 in
theorem past_at (G : Nat → Prop) (w : World) (p : Nat) (V : Value) (l : List Pe) (a : T) (ca : List Value) (n : Nat) (ts : Nat → T) (h : PastR G w p V l) (ha : RT (fun _ => True) w a ca) (hn : n ≤ l.length) (h0 : ts 0 = a) (hri : rightT a = true) (hsz : a.size ≤ 1048576) (hC : Chain l n ts) :
    Calls Try.prog 82 #[.pointer (some ⟨p, 0, none⟩), .agg ca.toArray, .int .i64 n] w (Ret (AtPost (ts n) w)) := by
  obtain ⟨Ka, ka, rfl, _⟩ := ha.row
  have hl8 := h.len
  have hPR := Hd.mk h
  have ra := Hd.mk ha
  replace h0 := Hd.mk h0
  replace hri := Hd.mk hri
  replace hsz := Hd.mk hsz
  replace hC := Hd.mk hC
  clear h ha
  simp only [cT] at ra ⊢
  have hn0 : ¬ (n : Int) < 0 := by omega
  have hnl : ¬ (l.length : Int) < (n : Int) := by omega
  go_enter Try.func82, Try.ntmps82
  go_wp2_with fail
  have kx := Hd.mk ((Ext.alloc w (.cells #[.string a.name, .string a.key, .int .i64 a.kind, .int .u64 a.num, .string a.text, .slice Ka a.kids.length ka] 54)).trans (Ext.alloc _ (.cells #[.string ⟨#[]⟩, .string ⟨#[]⟩, .int .i64 0, .int .u64 0, .string ⟨#[]⟩, .slice none 0 0] 54)))
  have kA := Hd.mk ((Blk.new w #[.string a.name, .string a.key, .int .i64 a.kind, .int .u64 a.num, .string a.text, .slice Ka a.kids.length ka] 54).alloc (.cells #[.string ⟨#[]⟩, .string ⟨#[]⟩, .int .i64 0, .int .u64 0, .string ⟨#[]⟩, .slice none 0 0] 54))
  have kR := Hd.mk (Blk.new2 w (.cells #[.string a.name, .string a.key, .int .i64 a.kind, .int .u64 a.num, .string a.text, .slice Ka a.kids.length ka] 54) #[.string ⟨#[]⟩, .string ⟨#[]⟩, .int .i64 0, .int .u64 0, .string ⟨#[]⟩, .slice none 0 0] 54)
  have hpW := Hd.mk (show w.heap.size + 1 < ((w.alloc _).alloc _).heap.size from kR.out.lt)
  generalize hp : w.heap.size = pA at *
  replace hp := Hd.mk hp
  generalize (w.alloc _).alloc _ = W at *
  refine Calls.mono (past_len G W p V l (hPR.out.ext kx.out)) ?_
  rintro e w1 ⟨rfl, hx⟩
  have hs1 := Hd.mk hx.size
  replace kx := Hd.mk (kx.out.trans hx)
  replace kA := Hd.mk (kA.out.ext hx)
  replace kR := Hd.mk (kR.out.ext hx)
  clear hx
  have gA := kA.out.cell
  go_wp2_with fail
  have hap := patch_applyF a [] (fun _ => True) (fun _ => True) w1 _ none 0 (ra.out.ext kx.out) ⟨Nat.le_refl _, by simp, fun _ => rfl, fun i e h => by simp at h⟩ hri.out (fun e h => by cases h) (by have := hsz.out; simpa [sizeE] using this)
  rw [applyT] at hap
  refine Calls.mono hap ?_
  rintro e w2 ⟨_, rfl, c9, rfl, hr9, hx⟩
  obtain ⟨Km, km, rfl, _⟩ := RT.row hr9
  simp only [cT] at hr9 ⊢
  replace kx := Hd.mk (kx.out.trans hx)
  replace kR := Hd.mk (kR.out.ext hx)
  have hs2 := Hd.mk (Nat.lt_of_lt_of_le kR.out.lt (Nat.le_refl _))
  have hr1 := Hd.mk (hr9.mono (S' := fun b => pA + 1 < b ∧ b < w2.heap.size) (fun b hb h => ⟨by have := hpW.out; have := hs1.out; omega, hb⟩))
  clear hx hr9 hap gA kA
  go_wp2_with fail
  have kO := Hd.mk (Blk.new w2 #[.string a.name, .string a.key, .int .i64 a.kind, .int .u64 a.num, .string a.text, .slice Km a.kids.length km] 54)
  have hxA := Hd.mk (Ext.alloc w2 (.cells #[.string a.name, .string a.key, .int .i64 a.kind, .int .u64 a.num, .string a.text, .slice Km a.kids.length km] 54))
  replace kx := Hd.mk (kx.out.trans hxA.out)
  replace kR := Hd.mk (kR.out.ext hxA.out)
  have hr2 := Hd.mk ((hr1.out.ext hxA.out).mono (S' := fun b => pA + 1 < b ∧ b ≠ w2.heap.size) (fun b _ hb => ⟨hb.1, by have := hb.2; omega⟩))
  clear hr1 hxA
  generalize w2.heap.size = pO at *
  generalize w2.alloc _ = w3 at *
  have hOR := Hd.mk (show pA + 1 < pO by have := hs2.out; omega)
  clear hs2
  go_loopg [36] (n + 1) (fun q si wr => ∃ (j : Nat) (m : T) (Km : Option Addr) (km : Nat), j ≤ n ∧ Hd (n - j < q) ∧ si = .int .i64 j ∧ Hd (m = ts j) ∧ Hd (Blk wr pO [.string m.name, .string m.key, .int .i64 m.kind, .int .u64 m.num, .string m.text, .slice Km m.kids.length km] 54) ∧ Hd (Blk wr (pA + 1) [.string ⟨#[]⟩, .string ⟨#[]⟩, .int .i64 0, .int .u64 0, .string ⟨#[]⟩, .slice none 0 0] 54) ∧ Hd (RF (fun b => pA + 1 < b ∧ b ≠ pO) wr m [.string m.name, .string m.key, .int .i64 m.kind, .int .u64 m.num, .string m.text, .slice Km m.kids.length km]) ∧ Hd (Ext w wr))
  case atStart => exact ⟨0, a, Km, km, Nat.zero_le _, ⟨by omega⟩, rfl, ⟨h0.out.symm⟩, kO, kR, hr2, kx⟩
  case round =>
  clear kO kR hr2 kx
  obtain ⟨j, m, Km, km, hj, hq, rfl, hm, kO, kR, hrt, kx⟩ := hrel
  generalize wr = W at *
  by_cases hlt : j < n
  · have hlti : (j : Int) < (n : Int) := by omega
    obtain ⟨x, hx1, hx2, hx3, hx4, hx5⟩ := hC.out j hlt
    rw [← hm.out] at hx2 hx3 hx5
    generalize hy : ts (j + 1) = y at hx2
    have hap := Hd.mk (fun W' (h : Ext W W') => (show Calls Try.prog 55 #[.agg #[.string m.name, .string m.key, .int .i64 m.kind, .int .u64 m.num, .string m.text, .slice Km m.kids.length km], .slice x.2.1 x.1.length x.2.2] W' (Ret fun w' v => ∃ c : List Value, v = .tuple #[.agg c.toArray, .int .i64 0, .int .i64 0] ∧ RF (fun b => W'.heap.size ≤ b) w' y c ∧ Ext W' w') from by
      have h9 := patch_applyF m x.1 _ _ W' _ x.2.1 x.2.2 (hrt.out.ext h) ((hPR.out.each x (List.mem_of_getElem? hx1)).ext (kx.out.trans h)) hx3 hx4 hx5
      rw [hx2] at h9
      exact h9))
    obtain ⟨j1, hj1⟩ : ∃ j1, j1 = j + 1 := ⟨_, rfl⟩
    obtain ⟨i, hi⟩ : ∃ i, i = l.length - (j + 1) := ⟨_, rfl⟩
    rw [← hi] at hx1
    have hni := Hd.mk (show j1 + i = l.length by omega)
    have hxi := Hd.mk hx1
    replace hy := Hd.mk hy
    replace hj1 := Hd.mk hj1
    have hPW := Hd.mk (hPR.out.ext kx.out)
    clear hx1 hx2 hx3 hx4 hx5 hi
    go_wp2_with fail
    refine FlowJ.wp_region_flow_l (x := 12) (tx := 12) (Y := [(7, 47), (8, 39), (9, 48)]) (J := JF y [.int .i64 0, .int .i64 0] W.heap.size) (G := GF 12 y W.heap.size) (gf_ext _ _ _) (R := Rb W.heap.size) 13 (fun _ _ h => rb_ext h) (fun h k => rb_trans h k) (fun qq => match qq with
      | 40 => SP.eq (.agg #[.string m.name, .string m.key, .int .i64 m.kind, .int .u64 m.num, .string m.text, .slice Km m.kids.length km])
      | 41 => SP.eq (.pointer (some ⟨p, 0, none⟩))
      | 42 => SP.eq (.pointer (some ⟨p, 0, none⟩))
      | 43 => SP.eq (.pointer (some ⟨p, 0, none⟩))
      | 44 => SP.eq (.int .i64 (j : Nat))
      | 45 => SP.eq (.int .i64 (j1 : Nat))
      | 46 => SP.eq (.slice x.2.1 x.1.length x.2.2)
      | 47 => spTupF y [.int .i64 0, .int .i64 0] W.heap.size
      | 39 => spTupF y [.int .i64 0, .int .i64 0] W.heap.size
      | 48 => spAggF y W.heap.size
      | 49 => SP.eq (.int .i64 0)
      | 50 => SP.eq (.int .i64 0)
      | 12 => spBoxE W.heap.size
      | 13 => SP.eq (.int .i64 0)
      | _ => SP.any) (FlowJ.over [(47, spFormX [.int .i64 0, .int .i64 0]), (39, spFormX [.int .i64 0, .int .i64 0]), (48, SP.any)] (fun qq => match qq with
      | 40 => SP.eq (.agg #[.string m.name, .string m.key, .int .i64 m.kind, .int .u64 m.num, .string m.text, .slice Km m.kids.length km])
      | 41 => SP.eq (.pointer (some ⟨p, 0, none⟩))
      | 42 => SP.eq (.pointer (some ⟨p, 0, none⟩))
      | 43 => SP.eq (.pointer (some ⟨p, 0, none⟩))
      | 44 => SP.eq (.int .i64 (j : Nat))
      | 45 => SP.eq (.int .i64 (j1 : Nat))
      | 46 => SP.eq (.slice x.2.1 x.1.length x.2.2)
      | 47 => spTupF y [.int .i64 0, .int .i64 0] W.heap.size
      | 39 => spTupF y [.int .i64 0, .int .i64 0] W.heap.size
      | 48 => spAggF y W.heap.size
      | 49 => SP.eq (.int .i64 0)
      | 50 => SP.eq (.int .i64 0)
      | 12 => spBoxE W.heap.size
      | 13 => SP.eq (.int .i64 0)
      | _ => SP.any)) 15 (by kernel_rfl) 58 rfl (by kernel_rfl) (of_decide_eq_true (by kernel_rfl)) (by decide) (by kernel_rfl) ?_ ?_ ?_ ?_ ?_
    · refine ⟨by decide, rfl, by kernel_rfl, ?_, jf_mono _ _ _⟩
      intro q hq
      simp only [List.mem_cons, List.not_mem_nil, or_false] at hq
      rcases hq with rfl | rfl | rfl
      all_goals exact ⟨by decide, by decide, by decide, rfl, by kernel_rfl⟩
    · refine FlowJ.over_weak (fun q hq => ?_)
      simp only [List.mem_cons, List.not_mem_nil, or_false] at hq
      rcases hq with rfl | rfl | rfl
      · exact fun u v1 ⟨c, e, _⟩ => ⟨c, e⟩
      · exact fun u v1 ⟨c, e, _⟩ => ⟨c, e⟩
      · exact fun u v1 _ => trivial
    · intro q hq u' v1 v2 hR
      by_cases q0 : q = 47
      · subst q0; exact fun ⟨c, e, _⟩ => ⟨c, e⟩
      by_cases q1 : q = 39
      · subst q1; exact fun ⟨c, e, _⟩ => ⟨c, e⟩
      by_cases q2 : q = 48
      · subst q2; exact fun _ => trivial
      rw [over_ne q0, over_ne q1, over_ne q2]
      simp only [FlowJ.over]
      split
      all_goals first | exact fun h => h | exact absurd rfl q0 | exact absurd rfl q1 | exact absurd rfl q2 | exact fun ⟨D, e, h1, c, hb, hc⟩ => ⟨D, e, h1, hR.2.2 D c hb hc⟩
    · refine ⟨?_, ?_, ?_, ?_, ?_, ?_, ?_, ?_, ?_, ?_, ?_, ?_, ?_, ?_, ?_, trivial⟩
      · intro act W2 hk
        refine FlowJ.does_intro rfl (fun Kq hK => ?_)
        have e8 : act.tmps[8]?.getD undef = .pointer (some ⟨pO, 0, none⟩) := hk.o 8 (by kernel_rfl)
        have g := ((kO.out).ext ((Ext.drew W).trans (hk.early (.inr (by kernel_rfl))))).cell
        clear hk
        go_simp
        exact hK _ _ (Ext.refl _) (xt_no (by decide) (by decide) (by decide)) (fun d hd => by cases hd; first | rfl | (simp [SP.eq]; omega))
      · intro act W2 hk
        refine FlowJ.does_intro rfl (fun Kq hK => ?_)
        have e0 : act.tmps[0]?.getD undef = .pointer (some ⟨p, 0, none⟩) := hk.o 0 (by kernel_rfl)
        clear hk
        go_simp
        exact hK _ _ (Ext.refl _) (xt_no (by decide) (by decide) (by decide)) (fun d hd => by cases hd; first | rfl | (simp [SP.eq]; omega))
      · intro act W2 hk
        refine FlowJ.does_intro rfl (fun Kq hK => ?_)
        have e41 : act.tmps[41]?.getD undef = .pointer (some ⟨p, 0, none⟩) := hk.ve 41 (by kernel_rfl) (by kernel_rfl)
        clear hk
        go_simp
        exact hK _ _ (Ext.refl _) (xt_no (by decide) (by decide) (by decide)) (fun d hd => by cases hd; first | rfl | (simp [SP.eq]; omega))
      · intro act W2 hk
        refine FlowJ.does_intro rfl (fun Kq hK => ?_)
        have e42 : act.tmps[42]?.getD undef = .pointer (some ⟨p, 0, none⟩) := hk.ve 42 (by kernel_rfl) (by kernel_rfl)
        clear hk
        go_simp
        exact hK _ _ (Ext.refl _) (xt_no (by decide) (by decide) (by decide)) (fun d hd => by cases hd; first | rfl | (simp [SP.eq]; omega))
      · intro act W2 hk
        refine FlowJ.does_intro rfl (fun Kq hK => ?_)
        have e11 : act.tmps[11]?.getD undef = .int .i64 (j : Nat) := hk.o 11 (by kernel_rfl)
        clear hk
        go_simp
        exact hK _ _ (Ext.refl _) (xt_no (by decide) (by decide) (by decide)) (fun d hd => by cases hd; first | rfl | (simp [SP.eq]; omega))
      · intro act W2 hk
        refine FlowJ.does_intro rfl (fun Kq hK => ?_)
        have e44 : act.tmps[44]?.getD undef = .int .i64 (j : Nat) := hk.ve 44 (by kernel_rfl) (by kernel_rfl)
        clear hk
        go_simp
        exact hK _ _ (Ext.refl _) (xt_no (by decide) (by decide) (by decide)) (fun d hd => by cases hd; have h1 := hj1.out; simp [SP.eq]; first | omega | (rw [IntKind.wrap_i64]; omega))
      · intro act W2 hk
        refine FlowJ.does_intro rfl (fun Kq hK => ?_)
        have e43 : act.tmps[43]?.getD undef = .pointer (some ⟨p, 0, none⟩) := hk.ve 43 (by kernel_rfl) (by kernel_rfl)
        have e45 : act.tmps[45]?.getD undef = .int .i64 (j1 : Nat) := hk.ve 45 (by kernel_rfl) (by kernel_rfl)
        have hx0 := Hd.mk ((Ext.drew W).trans (hk.early (.inr (by kernel_rfl))))
        have hbk := Hd.mk (row_back G W2 p V l x j1 i (hPW.out.ext hx0.out) hxi.out hni.out)
        clear hk
        go_simp
        refine Calls.mono hbk.out ?_
        rintro e W3 ⟨rfl, hx⟩
        exact hK _ _ hx (xt_no (by decide) (by decide) (by decide)) (fun d hd => by cases hd; rfl)
      · intro act W2 hk
        refine FlowJ.does_intro rfl (fun Kq hK => ?_)
        have e40 : act.tmps[40]?.getD undef = .agg #[.string m.name, .string m.key, .int .i64 m.kind, .int .u64 m.num, .string m.text, .slice Km m.kids.length km] := hk.ve 40 (by kernel_rfl) (by kernel_rfl)
        have e46 : act.tmps[46]?.getD undef = .slice x.2.1 x.1.length x.2.2 := hk.ve 46 (by kernel_rfl) (by kernel_rfl)
        have hx0 := Hd.mk ((Ext.drew W).trans (hk.early (.inr (by kernel_rfl))))
        have hsz0 := hx0.out.size
        clear hk
        go_simp
        refine Calls.mono (hap.out _ hx0.out) ?_
        rintro e W3 ⟨_, rfl, c9, rfl, hr9, hx⟩
        exact hK _ _ hx ⟨fun h => absurd h (by decide), fun h => absurd h (by decide), fun q hq h u hu _ => jf_call hsz0 hr9 hu⟩ (fun d hd => by cases hd; exact ⟨c9, rfl, hr9.mono (fun b _ hb => Nat.le_trans hsz0 hb)⟩)
      · intro act W2 hk
        refine FlowJ.does_intro rfl (fun Kq hK => ?_)
        obtain ⟨c9, e47, hr9⟩ := (hk.ve 47 (by kernel_rfl) (by kernel_rfl) : (spTupF y [.int .i64 0, .int .i64 0] W.heap.size).p _ _)
        clear hk
        go_simp
        refine hK _ _ (Ext.refl _) ⟨fun h => absurd h (by decide), fun h => absurd h (by decide), fun q hq h u hu hj => ?_⟩ (fun d hd => by cases hd; exact ⟨c9, rfl, hr9⟩)
        have h1 := hj (7, 47) (by simp) (by kernel_rfl)
        rw [Array.getD_eq_getD_getElem?] at h1
        rw [e47] at h1
        exact h1
      · intro act W2 hk
        refine FlowJ.does_intro rfl (fun Kq hK => ?_)
        obtain ⟨c9, e39, hr9⟩ := (hk.ve 39 (by kernel_rfl) (by kernel_rfl) : (spTupF y [.int .i64 0, .int .i64 0] W.heap.size).p _ _)
        clear hk
        go_simp
        refine hK _ _ (Ext.refl _) ⟨fun h => absurd h (by decide), fun h => absurd h (by decide), fun q hq h u hu hj => ?_⟩ (fun d hd => by cases hd; exact ⟨c9, rfl, hr9⟩)
        have h1 := hj (8, 39) (by simp) (by kernel_rfl)
        rw [Array.getD_eq_getD_getElem?] at h1
        rw [e39] at h1
        exact jf_take h1
      · intro act W2 hk
        refine FlowJ.does_intro rfl (fun Kq hK => ?_)
        obtain ⟨c9, e39⟩ := (hk.v 39 (by kernel_rfl) : (spFormX [.int .i64 0, .int .i64 0]).p _ _)
        clear hk
        go_simp
        exact hK _ _ (Ext.refl _) (xt_no (by decide) (by decide) (by decide)) (fun d hd => by cases hd; first | rfl | (simp [SP.eq]; omega))
      · intro act W2 hk
        refine FlowJ.does_intro rfl (fun Kq hK => ?_)
        obtain ⟨c9, e39⟩ := (hk.v 39 (by kernel_rfl) : (spFormX [.int .i64 0, .int .i64 0]).p _ _)
        clear hk
        go_simp
        exact hK _ _ (Ext.refl _) (xt_no (by decide) (by decide) (by decide)) (fun d hd => by cases hd; first | rfl | (simp [SP.eq]; omega))
      · intro act W2 hk
        refine FlowJ.does_intro rfl (fun Kq hK => ?_)
        have hx0 := Hd.mk ((Ext.drew W).trans (hk.early (.inr (by kernel_rfl))))
        clear hk
        go_simp
        refine hK _ _ (Ext.alloc _ _) ⟨fun h => absurd h (by decide), fun h q hq u hu => ?_, fun q hq h => ?_⟩ (fun d hd => by cases hd; exact ⟨_, rfl, hx0.out.size, _, Blk.new _ _ _, rfl⟩)
        · simp only [List.mem_cons, List.not_mem_nil, or_false] at hq
          rcases hq with rfl | rfl | rfl
          · exact jf_alloc (.inl hu)
          · exact jf_alloc (.inl hu)
          · exact jf_alloc (.inr hu)
        · simp only [List.mem_cons, List.not_mem_nil, or_false] at hq
          rcases hq with rfl | rfl | rfl <;> cases h
      · intro act W2 hk
        refine FlowJ.does_intro rfl (fun Kq hK => ?_)
        obtain ⟨c9, e48, hr9⟩ := (hk.ve 48 (by kernel_rfl) (by kernel_rfl) : (spAggF y W.heap.size).p _ _)
        obtain ⟨D, e12, hDn, cD, hD, hc6⟩ := (hk.ve 12 (by kernel_rfl) (by kernel_rfl) : (spBoxE _).p _ _)
        have hrel := hk.rel rfl (9, 48) (by simp)
        simp only [Array.getD_eq_getD_getElem?] at hrel
        rw [e48, e12] at hrel
        have hrt := Hd.mk (hrel D c9 rfl (.inr rfl))
        clear hrel hk
        obtain ⟨Ku, ku, rfl, _⟩ := hr9.row
        simp only [cT] at hrt e48
        clear hr9
        obtain ⟨x0, x1, x2, x3, x4, x5, rfl⟩ : ∃ x0 x1 x2 x3 x4 x5, cD = [x0, x1, x2, x3, x4, x5] := by match cD, hc6 with | [a, b, c, d, e, f], _ => exact ⟨a, b, c, d, e, f, rfl⟩
        have kD := Hd.mk hD
        have eA := Hd.mk e12
        have gD := kD.out.cell
        have fD := kD.out.free
        clear hD
        go_simp
        have hu := ((((((Upd.setCell W2 ⟨D, 0, none⟩ (.string y.name)).trans (Upd.setCell _ ⟨D, 1, none⟩ (.string y.key))).trans (Upd.setCell _ ⟨D, 2, none⟩ (.int .i64 y.kind))).trans (Upd.setCell _ ⟨D, 3, none⟩ (.int .u64 y.num))).trans (Upd.setCell _ ⟨D, 4, none⟩ (.string y.text))).trans (Upd.setCell _ ⟨D, 5, none⟩ (.slice Ku y.kids.length ku)))
        have kDn := ((((((kD.out.setCell 0 (.string y.name)).setCell 1 (.string y.key)).setCell 2 (.int .i64 y.kind)).setCell 3 (.int .u64 y.num)).setCell 4 (.string y.text)).setCell 5 (.slice Ku y.kids.length ku))
        refine hK undef _ (rb_upd hDn hu ⟨_, kDn, rfl⟩) ⟨fun _ D2 hD2 => ?_, fun h => absurd h (by decide), fun q hq h => ?_⟩ (fun d hd => by cases hd)
        · have e9b := eA.out
          rw [Array.getD_eq_getD_getElem?] at hD2
          rw [e9b] at hD2
          cases hD2
          exact ⟨_, kDn, hrt.out.upd hu (fun h => h.2 rfl)⟩
        · simp only [List.mem_cons, List.not_mem_nil, or_false] at hq
          rcases hq with rfl | rfl | rfl <;> cases h
      · intro act W2 hk
        refine FlowJ.does_intro rfl (fun Kq hK => ?_)
        have e49 : act.tmps[49]?.getD undef = .int .i64 0 := hk.v 49 (by kernel_rfl)
        clear hk
        go_simp
        exact hK _ _ (Ext.refl _) (xt_no (by decide) (by decide) (by decide)) (fun d hd => by cases hd; first | rfl | (simp [SP.eq]; omega))
    · intro act V2 he
      have hxV2 := Hd.mk (rb_below (rb_trans (rb_ext (Ext.drew W)) he.ext))
      obtain ⟨aP, hG1, hG2⟩ := he.post
      have hG9 := hG2 12 (by kernel_rfl)
      obtain ⟨us, hA, hF⟩ := he.out [40, 41, 42, 43, 44, 45, 46, 47, 39, 48, 49, 50, 12, 13] (by kernel_rfl)
      simp only [Flow.fillL, List.contains_cons, List.contains_nil, Nat.reduceBEq, Bool.or_false, Bool.false_or, Bool.or_true, Bool.true_or, ↓reduceIte, Nat.reduceAdd, Bool.false_eq_true] at hA
      subst hA
      have f49 : us 49 = .int .i64 0 := hF 49 (by simp)
      have f50 : us 50 = .int .i64 0 := hF 50 (by simp)
      have f13 : us 13 = .int .i64 0 := hF 13 (by simp)
      have f2 : (spBoxE W.heap.size).p (us 12) V2 := hF 12 (by simp)
      clear hF he
      rw [f49]
      clear f49
      rw [f50]
      clear f50
      rw [f13]
      clear f13
      have hG9b : aP.tmps.getD 12 undef = us 12 := hG9
      obtain ⟨D, e9, hDn, _⟩ := f2
      rw [e9] at hG9b
      obtain ⟨cD, kD0, hrt⟩ := hG1 D hG9b
      rw [e9]
      clear e9 hG1 hG2 hG9 hG9b
      have hDn := Hd.mk hDn
      have kD := Hd.mk kD0
      obtain ⟨Ku, ku, rfl, _⟩ := hrt.row
      have hrm := Hd.mk hrt
      simp only [cT] at hrm kD
      clear kD0 hrt
      refine (show wpList _ _ _ (⟨some 14, .assign (.tmp 50), _, _, _, none⟩ :: _) _ _ from ?_)
      have hWs := Hd.mk kO.out.lt
      have hRs := Hd.mk kR.out.lt
      replace kO := Hd.mk (kO.out.ext hxV2.out)
      replace kR := Hd.mk (kR.out.ext hxV2.out)
      replace kx := Hd.mk (kx.out.trans hxV2.out)
      clear hrt hap hPW hxi hni hxV2
      have gD := kD.out.cell
      have gO := kO.out.cell
      have fO := kO.out.free
      go_wp2_with fail
      have hu := Hd.mk ((((((Upd.setCell V2 ⟨pO, 0, none⟩ (.string y.name)).trans (Upd.setCell _ ⟨pO, 1, none⟩ (.string y.key))).trans (Upd.setCell _ ⟨pO, 2, none⟩ (.int .i64 y.kind))).trans (Upd.setCell _ ⟨pO, 3, none⟩ (.int .u64 y.num))).trans (Upd.setCell _ ⟨pO, 4, none⟩ (.string y.text))).trans (Upd.setCell _ ⟨pO, 5, none⟩ (.slice Ku y.kids.length ku)))
      have kOn := Hd.mk (show Blk _ pO [.string y.name, .string y.key, .int .i64 y.kind, .int .u64 y.num, .string y.text, .slice Ku y.kids.length ku] 54 from ((((((kO.out.setCell 0 (.string y.name)).setCell 1 (.string y.key)).setCell 2 (.int .i64 y.kind)).setCell 3 (.int .u64 y.num)).setCell 4 (.string y.text)).setCell 5 (.slice Ku y.kids.length ku)))
      go_roundg (n - j)
      case measure => have := hq.out; omega
      case rel => exact ⟨j + 1, y, Ku, ku, by omega, ⟨by omega⟩, by go_num, ⟨hy.out.symm⟩, kOn, ⟨hu.out.blk (by show pA + 1 ≠ pO; have h1 := hOR.out; omega) kR.out⟩, ⟨(hrm.out.upd hu.out (fun h => by have h1 : W.heap.size ≤ pO := h.1; have h2 := hWs.out; omega)).mono (fun b _ hb => ⟨by have h1 := hb.1; have h2 := hRs.out; omega, fun e => by have h1 := hb.1; have h2 := hWs.out; omega⟩)⟩, ⟨Below.trans kx.out (hu.out.below (by show w.heap.size ≤ pO; have h1 := hOR.out; have h2 := hp.out; omega))⟩⟩
  · have hjn : j = n := by omega
    have hmn := hm.out
    rw [hjn] at hmn
    replace hmn := Hd.mk hmn
    have hge : ¬ (j : Int) < (n : Int) := by omega
    clear hjn
    have gO := kO.out.cell
    have gR := kR.out.cell
    have fR := kR.out.free
    go_wp2_with fail
    have hu := Hd.mk ((((((Upd.setCell W ⟨pA + 1, 0, none⟩ (.string m.name)).trans (Upd.setCell _ ⟨pA + 1, 1, none⟩ (.string m.key))).trans (Upd.setCell _ ⟨pA + 1, 2, none⟩ (.int .i64 m.kind))).trans (Upd.setCell _ ⟨pA + 1, 3, none⟩ (.int .u64 m.num))).trans (Upd.setCell _ ⟨pA + 1, 4, none⟩ (.string m.text))).trans (Upd.setCell _ ⟨pA + 1, 5, none⟩ (.slice Km m.kids.length km)))
    exact ret_box2 rfl (pA + 1) _ 54 _ ((((((kR.out.setCell 0 (.string m.name)).setCell 1 (.string m.key)).setCell 2 (.int .i64 m.kind)).setCell 3 (.int .u64 m.num)).setCell 4 (.string m.text)).setCell 5 (.slice Km m.kids.length km)) rfl rfl Try.underlying54 rfl size54
      ⟨_, rfl, _, rfl, by rw [← hmn.out]; exact (hrt.out.upd hu.out (fun h => Nat.lt_irrefl _ h.1)).mono (fun b _ hb => by rw [hp.out]; have := hb.1; omega), Below.trans kx.out (hu.out.below (by rw [hp.out]; show pA ≤ pA + 1; omega))⟩
end Go.Proofs.Ytgkgedjmnbjalaa
set_option linter.unusedSimpArgs false
set_option linter.unusedVariables false
namespace Go.Proofs.Ytgkgedjmnbjalaa
open Go.RowKit Go.Sort
def ZeroPost (n : Int) (w w' : World) (v : Value) : Prop := v = .tuple #[.agg #[.string ⟨#[]⟩, .string ⟨#[]⟩, .int .i64 0, .int .u64 0, .string ⟨#[]⟩, .slice none 0 0], .int .i64 n] ∧ Ext w w'
set_option maxRecDepth 100000 in
set_option maxHeartbeats 400000 in
theorem past_at_high (G : Nat → Prop) (w : World) (p : Nat) (V : Value) (l : List Pe) (a : T) (Ka : Option Addr) (ka : Nat) (n : Int) (h : PastR G w p V l) (hn : (l.length : Int) < n) :
    Calls Try.prog 82 #[.pointer (some ⟨p, 0, none⟩), .agg #[.string a.name, .string a.key, .int .i64 a.kind, .int .u64 a.num, .string a.text, .slice Ka a.kids.length ka], .int .i64 n] w (Ret (ZeroPost 2 w)) := by
  have hn0 : ¬ n < 0 := by omega
  have hPR := Hd.mk h
  clear h
  go_enter Try.func82, Try.ntmps82
  go_wp2_with fail
  have kx := Hd.mk ((Ext.alloc w (.cells #[.string a.name, .string a.key, .int .i64 a.kind, .int .u64 a.num, .string a.text, .slice Ka a.kids.length ka] 54)).trans (Ext.alloc _ (.cells #[.string ⟨#[]⟩, .string ⟨#[]⟩, .int .i64 0, .int .u64 0, .string ⟨#[]⟩, .slice none 0 0] 54)))
  have kR := Hd.mk (Blk.new2 w (.cells #[.string a.name, .string a.key, .int .i64 a.kind, .int .u64 a.num, .string a.text, .slice Ka a.kids.length ka] 54) #[.string ⟨#[]⟩, .string ⟨#[]⟩, .int .i64 0, .int .u64 0, .string ⟨#[]⟩, .slice none 0 0] 54)
  generalize hp : w.heap.size = pA at *
  replace hp := Hd.mk hp
  generalize (w.alloc _).alloc _ = W at *
  refine Calls.mono (past_len G W p V l (hPR.out.ext kx.out)) ?_
  rintro e w1 ⟨rfl, hx⟩
  replace kx := Hd.mk (kx.out.trans hx)
  replace kR := Hd.mk (kR.out.ext hx)
  clear hx
  have gR := kR.out.cell
  have fR := kR.out.free
  go_wp2_with fail
  have hu := Hd.mk ((((((Upd.setCell w1 ⟨pA + 1, 0, none⟩ (.string ⟨#[]⟩)).trans (Upd.setCell _ ⟨pA + 1, 1, none⟩ (.string ⟨#[]⟩))).trans (Upd.setCell _ ⟨pA + 1, 2, none⟩ (.int .i64 0))).trans (Upd.setCell _ ⟨pA + 1, 3, none⟩ (.int .u64 0))).trans (Upd.setCell _ ⟨pA + 1, 4, none⟩ (.string ⟨#[]⟩))).trans (Upd.setCell _ ⟨pA + 1, 5, none⟩ (.slice none 0 0)))
  exact ret_box2 rfl (pA + 1) _ 54 _ ((((((kR.out.setCell 0 (.string ⟨#[]⟩)).setCell 1 (.string ⟨#[]⟩)).setCell 2 (.int .i64 0)).setCell 3 (.int .u64 0)).setCell 4 (.string ⟨#[]⟩)).setCell 5 (.slice none 0 0)) rfl rfl Try.underlying54 rfl size54 ⟨_, rfl, rfl, Below.trans kx.out (hu.out.below (by rw [hp.out]; show pA ≤ pA + 1; omega))⟩
end Go.Proofs.Ytgkgedjmnbjalaa
set_option linter.unusedSimpArgs false
set_option linter.unusedVariables false
namespace Go.Proofs.Ytgkgedjmnbjalaa
open Go.RowKit Go.Sort
def lfX (n : Int) : T := .mk ⟨#[120]⟩ ⟨#[]⟩ 1 n ⟨#[]⟩ []
def leafT (n : Int) : T := zeroT.wk [lfX n]
theorem lfX_rt (w : World) (n : Int) : RT (fun _ => True) w (lfX n) [.string ⟨#[120]⟩, .string ⟨#[]⟩, .int .i64 1, .int .u64 n, .string ⟨#[]⟩, .slice none 0 0] := RT.of_row (t := lfX n) (K := none) (kc := 0) (RRow.nil _ _ _ _ (fun _ => rfl))
set_option maxRecDepth 100000 in
set_option maxHeartbeats 400000 in
theorem leaf28 (n : Int) (w : World) : Calls Try.prog 127 #[.int .u64 n] w (Ret fun w' v => ∃ c : List Value, v = .agg c.toArray ∧ RT (fun _ => True) w' (leafT n) c ∧ Ext w w') := by
  go_enter Try.func127, Try.ntmps127
  go_wp2_with (with_reducible refine stop_at (.buildSlice 52 1 #[(0, .tmp 5)]) ?_)
  refine Stop.mk ?_
  have kx := Hd.mk (Ext.alloc w (.cells #[.string ⟨#[]⟩, .string ⟨#[]⟩, .int .i64 0, .int .u64 0, .string ⟨#[]⟩, .slice none 0 0] 54))
  have kR := Hd.mk (Blk.new w #[.string ⟨#[]⟩, .string ⟨#[]⟩, .int .i64 0, .int .u64 0, .string ⟨#[]⟩, .slice none 0 0] 54)
  generalize hp : w.heap.size = p at *
  replace hp := Hd.mk hp
  generalize w.alloc _ = W at *
  go_wp2_with (with_reducible refine stop_at (.build 54 #[(3, .tmp 6)]) ?_)
  refine Stop.mk ?_
  replace kx := Hd.mk (kx.out.trans (Ext.alloc W (.cells #[.string ⟨#[120]⟩, .string ⟨#[]⟩, .int .i64 1, .int .u64 n, .string ⟨#[]⟩, .slice none 0 0] 54)))
  replace kR := Hd.mk (kR.out.alloc (.cells #[.string ⟨#[120]⟩, .string ⟨#[]⟩, .int .i64 1, .int .u64 n, .string ⟨#[]⟩, .slice none 0 0] 54))
  have kD := Hd.mk (Blk.new W #[.string ⟨#[120]⟩, .string ⟨#[]⟩, .int .i64 1, .int .u64 n, .string ⟨#[]⟩, .slice none 0 0] 54)
  have hpD := Hd.mk (show p < W.heap.size + 1 from by have := kR.out.lt; simpa using this)
  have hpD2 : Hd (p ≠ W.heap.size) := ⟨fun e => by have h1 := kR.out.cell 2; rw [e, kD.out.cell] at h1; simp at h1⟩
  generalize W.heap.size = D at *
  generalize W.alloc _ = V at *
  have gR := kR.out.cell
  have fR := kR.out.free
  go_wp2_with fail
  have hu := Hd.mk ((((((Upd.setCell V ⟨p, 0, none⟩ (.string ⟨#[]⟩)).trans (Upd.setCell _ ⟨p, 1, none⟩ (.string ⟨#[]⟩))).trans (Upd.setCell _ ⟨p, 2, none⟩ (.int .i64 0))).trans (Upd.setCell _ ⟨p, 3, none⟩ (.int .u64 0))).trans (Upd.setCell _ ⟨p, 4, none⟩ (.string ⟨#[]⟩))).trans (Upd.setCell _ ⟨p, 5, none⟩ (.slice (some ⟨D, 0, none⟩) 1 1)))
  have kD2 := hu.out.blk (show D ≠ p from fun e => hpD2.out e.symm) kD.out
  have hr : RT (fun _ => True) _ (leafT n) [.string ⟨#[]⟩, .string ⟨#[]⟩, .int .i64 0, .int .u64 0, .string ⟨#[]⟩, .slice (some ⟨D, 0, none⟩) 1 1] :=
    RT.of_row (t := leafT n) ⟨Nat.le_refl _, by simp [leafT, T.kids, T.wk], fun h => (by cases h), fun i k hi => by
      cases i with
      | zero => simp [leafT, T.kids, T.wk, zeroT] at hi; subst hi; exact ⟨D, 0, _, rfl, trivial, lfX_rt _ n, fun j v hv => by rw [show 0 + 0 * 6 + j = j by omega, kD2.cell]; exact hv⟩
      | succ i => simp [leafT, T.kids, T.wk, zeroT] at hi⟩
  exact ret_box rfl p _ 54 _ ((((((kR.out.setCell 0 (.string ⟨#[]⟩)).setCell 1 (.string ⟨#[]⟩)).setCell 2 (.int .i64 0)).setCell 3 (.int .u64 0)).setCell 4 (.string ⟨#[]⟩)).setCell 5 (.slice (some ⟨D, 0, none⟩) 1 1)) rfl rfl Try.underlying54 rfl size54 ⟨_, rfl, _, rfl, hr, Below.trans kx.out (hu.out.below (Nat.le_of_eq hp.out))⟩
end Go.Proofs.Ytgkgedjmnbjalaa
set_option linter.unusedSimpArgs false
set_option linter.unusedVariables false
namespace Go.Proofs.Ytgkgedjmnbjalaa
open Go.RowKit Go.Sort
structure Trail (l : List Pe) (all : List T) : Prop where
  len : all.length = l.length + 1
  may : ∀ t ∈ all, mayT t = true
  back : ∀ (i : Nat) x a b, l[i]? = some x → all[i]? = some a → all[i + 1]? = some b → x.1 = inverse (edits 200 a b [])
theorem may_zero : mayT zeroT = true := by
  refine mayT_iff.2 ⟨by decide, rfl, rfl, rfl, rfl, rfl, zero_good.1⟩
theorem Trail.one {x : T} (hx : mayT x = true) : Trail [] [x] := ⟨rfl, fun t h => by simp at h; subst h; exact hx, fun i x a b h => by simp at h⟩
theorem Trail.nil : Trail [] [zeroT] := Trail.one may_zero
theorem Trail.push {l : List Pe} {ts : List T} {now x : T} {A : Option Addr} {c : Nat} (h : Trail l (ts ++ [now])) (hx : mayT x = true) :
    Trail (l ++ [(inverse (edits 200 now x []), A, c)]) ((ts ++ [now]) ++ [x]) := by
  have hl := h.len
  have hl2 : ts.length = l.length := by simpa using hl
  refine ⟨by simp [hl2], fun t ht => ?_, fun i y a b hy ha hb => ?_⟩
  · rcases List.mem_append.1 ht with h1 | h1
    · exact h.may t h1
    · simp at h1; subst h1; exact hx
  · by_cases hi : i < l.length
    · rw [List.getElem?_append_left hi] at hy
      rw [List.getElem?_append_left (by rw [hl]; omega)] at ha hb
      exact h.back i y a b hy ha hb
    · have h1 := (List.getElem?_eq_some_iff.1 hy).1
      have hi2 : i = l.length := by simp at h1; omega
      subst hi2
      rw [List.getElem?_append_right (by omega), Nat.sub_self] at hy
      simp at hy
      subst hy
      rw [List.getElem?_append_left (by rw [hl]; omega), List.getElem?_append_right (by omega), hl2, Nat.sub_self] at ha
      rw [List.getElem?_append_right (by rw [hl]; omega), hl, Nat.sub_self] at hb
      simp at ha hb
      subst ha hb
      rfl
theorem may_edits {a b : T} (ha : mayT a = true) (hb : mayT b = true) :
    applyT b (inverse (edits 200 a b [])) 0 = (a, 0, 0) ∧ (∀ e ∈ inverse (edits 200 a b []), e.kind ≠ 2 → rightT e.node = true) ∧ b.size + sizeE (inverse (edits 200 a b [])) ≤ 1048576 := by
  obtain ⟨a1, a2, a3, a4, a5, a6, a7⟩ := mayT_iff.1 ha
  obtain ⟨b1, b2, b3, b4, b5, b6, b7⟩ := mayT_iff.1 hb
  have hs : stepT a = stepT b := by simp only [stepT, a2, a3, b2, b3]
  have hp := makes_plain (N := 200) (Nat.le_trans a.deep_le a1) (Nat.le_trans b.deep_le b1) a4 b4 a7 b7 hs
  obtain ⟨hgd, hln⟩ := edits_small (N := 200) a7 (fun z hz => (right_kid' b7 hz).2) (by omega) (by omega)
  have hgi := inverse_good hgd (by omega)
  have hli := inverse_le (edits 200 a b [])
  have hm2 := good_sum hgi (by omega)
  exact ⟨hp.2 0, fun e he _ => (hgi e he).1, by omega⟩
def wasT (all : List T) (j : Nat) : T := (all[all.length - 1 - j]?).getD zeroT
theorem Trail.chain {l : List Pe} {all : List T} {n : Nat} (h : Trail l all) (hn : n ≤ l.length) : Chain l n (wasT all) := by
  intro j hj
  have hl := h.len
  have h1 : l.length - (j + 1) < l.length := by omega
  have e1 : all.length - 1 - j = l.length - (j + 1) + 1 := by omega
  have e2 : all.length - 1 - (j + 1) = l.length - (j + 1) := by omega
  have hlt1 : l.length - (j + 1) + 1 < all.length := by omega
  have hlt2 : l.length - (j + 1) < all.length := by omega
  have hb : wasT all j = all[l.length - (j + 1) + 1] := by unfold wasT; rw [e1, List.getElem?_eq_getElem hlt1]; rfl
  have ha : wasT all (j + 1) = all[l.length - (j + 1)] := by unfold wasT; rw [e2, List.getElem?_eq_getElem hlt2]; rfl
  have mb := h.may _ (List.getElem_mem hlt1)
  have ma := h.may _ (List.getElem_mem hlt2)
  refine ⟨l[l.length - (j + 1)], List.getElem?_eq_getElem h1, ?_⟩
  rw [h.back _ _ _ _ (List.getElem?_eq_getElem h1) (List.getElem?_eq_getElem hlt2) (List.getElem?_eq_getElem hlt1), hb, ha]
  obtain ⟨p1, p2, p3⟩ := may_edits ma mb
  exact ⟨p1, (mayT_iff.1 mb).2.2.2.2.2.2, p2, p3⟩
theorem was_0 (ts : List T) (now : T) : wasT (ts ++ [now]) 0 = now := by simp [wasT]
theorem was_n {ts : List T} {now x : T} {n i : Nat} (hn : n + i = ts.length) (h0 : 0 < n) (hx : ts[i]? = some x) : wasT (ts ++ [now]) n = x := by
  have e : (ts ++ [now]).length - 1 - n = i := by simp; omega
  unfold wasT
  rw [e, List.getElem?_append_left (by omega), hx]
  rfl
theorem Trail.right {l : List Pe} {ts : List T} {now : T} (h : Trail l (ts ++ [now])) : mayT now = true := h.may now (by simp)
end Go.Proofs.Ytgkgedjmnbjalaa
set_option linter.unusedSimpArgs false
set_option linter.unusedVariables false
namespace Go.Proofs.Ytgkgedjmnbjalaa
open Go.RowKit Go.Sort
theorem may_leaf (n : Int) : mayT (leafT n) = true := by
  refine mayT_iff.2 ⟨by show 2 ≤ 200; decide, rfl, rfl, rfl, rfl, rfl, ?_⟩
  simp [rightT, rightL, leafT, lfX, zeroT, T.wk, T.kind, T.num, T.text, T.kids]
def spLf (t : T) : SP := ⟨fun v w => ∃ c : List Value, v = .agg c.toArray ∧ RT (fun _ => True) w t c, fun _ _ _ h ⟨c, e, hr⟩ => ⟨c, e, hr.ext h⟩⟩
theorem leaf_deep (n : Int) : (leafT n).deep ≤ 200 ∧ (leafT n).size = 2 := ⟨by show 2 ≤ 200; decide, rfl⟩
theorem PastR.ge {G : Nat → Prop} {w : World} {p : Nat} {V : Value} {l : List Pe} (h : PastR G w p V l) : ∀ k, V.ownBlock = some k → p < k := fun k hk => by have := own_base h.own k hk; omega
theorem past_ext {G : Nat → Prop} {w0 w w' : World} {p : Nat} {V V' : Value} {l : List Pe} (kx : Ext w0 w) (hp : w0.heap.size ≤ p) (h : PastR G w p V l) (hF : Fr p w V w' V') : Ext w0 w' :=
  Below.trans kx (hF.below hp kx.size (fun k hk => by have := h.ge k hk; omega))
set_option maxRecDepth 100000 in
set_option maxHeartbeats 1000000 in
theorem awake28 (w : World) : Calls Try.prog 75 #[] w fun e w' => e = .returned (.bool true) ∧ Ext w w' := by
  go_enter Try.func75, Try.ntmps75
  go_wp2_with fail
  refine Calls.mono (past_new (fun _ => True) w) ?_
  rintro e w1 ⟨rfl, hP, hx, hs⟩
  have kx := Hd.mk hx
  have kP := Hd.mk hP
  clear hx hP hs
  generalize hp : w.heap.size = p at kP ⊢
  have hpw := Hd.mk (Nat.le_of_eq hp)
  clear hp
  go_wp2_with fail
  refine Calls.mono (leaf28 1 _) ?_
  rintro e w2 ⟨_, rfl, c1, rfl, h1, hx⟩
  replace kx := Hd.mk (kx.out.trans hx)
  replace kP := Hd.mk (kP.out.ext hx)
  have r1 := Hd.mk h1
  clear hx h1
  go_wp2_with fail
  refine Calls.mono (leaf28 2 _) ?_
  rintro e w3 ⟨_, rfl, c2, rfl, h2, hx⟩
  replace kx := Hd.mk (kx.out.trans hx)
  replace kP := Hd.mk (kP.out.ext hx)
  replace r1 := Hd.mk (r1.out.ext hx)
  have r2 := Hd.mk h2
  clear hx h2
  go_wp2_with fail
  refine Calls.mono (past_push (fun _ => True) w3 p _ [] (leafT 1) (leafT 2) c1 c2 kP.out r1.out r2.out 200 (leaf_deep 1).1 (by have := (leaf_deep 1).1; omega) (by rw [(leaf_deep 1).2, (leaf_deep 2).2]; decide) (fun _ _ => trivial)) ?_
  rintro e w4 (⟨_, rfl, V1, A1, k1, hP, hF⟩ | ⟨h8, _⟩)
  case inr => simp at h8
  replace kx := Hd.mk (past_ext kx.out hpw.out kP.out hF)
  replace kP := Hd.mk hP
  clear hP hF r1 r2
  have hT := Hd.mk (((Trail.one (may_leaf 1)).push (ts := []) (A := A1) (c := k1) (may_leaf 2)))
  go_wp2_with fail
  refine Calls.mono (leaf28 2 _) ?_
  rintro e w5 ⟨_, rfl, c3, rfl, h3, hx⟩
  replace kx := Hd.mk (kx.out.trans hx)
  replace kP := Hd.mk (kP.out.ext hx)
  have r3 := Hd.mk h3
  clear hx h3
  go_wp2_with fail
  refine Calls.mono (past_push (fun _ => True) w5 p _ _ (leafT 2) zeroT c3 _ kP.out r3.out (rt_zero _ _) 200 (leaf_deep 2).1 (by have := (leaf_deep 2).1; omega) (by rw [(leaf_deep 2).2]; decide) (fun _ _ => trivial)) ?_
  rintro e w6 (⟨_, rfl, V2, A2, k2, hP, hF⟩ | ⟨h8, _⟩)
  case inr => simp at h8
  replace kx := Hd.mk (past_ext kx.out hpw.out kP.out hF)
  replace kP := Hd.mk hP
  replace hT := Hd.mk (Trail.push (ts := [leafT 1]) (A := A2) (c := k2) hT.out may_zero)
  clear hP hF r3
  simp only [List.nil_append, List.cons_append] at kP hT
  generalize hl : [(inverse (edits 200 (leafT 1) (leafT 2) []), A1, k1), (inverse (edits 200 (leafT 2) zeroT []), A2, k2)] = l at *
  have hlen := Hd.mk (show l.length = 2 by rw [← hl]; rfl)
  clear hl
  have hC1 := Hd.mk (Trail.chain (n := 1) hT.out (by rw [hlen.out]; decide))
  have hC2 := Hd.mk (Trail.chain (n := 2) hT.out (by rw [hlen.out]; decide))
  have hAt1 := Hd.mk (fun W (h : Ext w6 W) => (show Calls Try.prog 82 #[.pointer (some ⟨p, 0, none⟩), .agg #[.string ⟨#[]⟩, .string ⟨#[]⟩, .int .i64 0, .int .u64 0, .string ⟨#[]⟩, .slice none 0 0], .int .i64 1] W (Ret (AtPost (leafT 2) W)) from past_at (fun _ => True) W p V2 l zeroT _ 1 (wasT [leafT 1, leafT 2, zeroT]) (kP.out.ext h) (rt_zero (fun _ => True) _) (by rw [hlen.out]; decide) rfl zero_good.1 (by decide) hC1.out))
  have hAt2 := Hd.mk (fun W (h : Ext w6 W) => (show Calls Try.prog 82 #[.pointer (some ⟨p, 0, none⟩), .agg #[.string ⟨#[]⟩, .string ⟨#[]⟩, .int .i64 0, .int .u64 0, .string ⟨#[]⟩, .slice none 0 0], .int .i64 2] W (Ret (AtPost (leafT 1) W)) from past_at (fun _ => True) W p V2 l zeroT _ 2 (wasT [leafT 1, leafT 2, zeroT]) (kP.out.ext h) (rt_zero (fun _ => True) _) (by rw [hlen.out]; decide) rfl zero_good.1 (by decide) hC2.out))
  have hAt3 := Hd.mk (fun W (h : Ext w6 W) => (show Calls Try.prog 82 #[.pointer (some ⟨p, 0, none⟩), .agg #[.string ⟨#[]⟩, .string ⟨#[]⟩, .int .i64 0, .int .u64 0, .string ⟨#[]⟩, .slice none 0 0], .int .i64 3] W (Ret (ZeroPost 2 W)) from past_at_high (fun _ => True) W p V2 l zeroT none 0 3 (kP.out.ext h) (by rw [hlen.out]; decide)))
  have k6 := Hd.mk (Ext.refl w6)
  clear hC1 hC2 hT
  go_wp2_with fail
  refine Calls.mono (hAt1.out _ k6.out) ?_
  rintro e w7 ⟨_, rfl, c4, rfl, h4, hx⟩
  replace k6 := Hd.mk (k6.out.trans hx)
  obtain ⟨K4, k4, rfl, _⟩ := RT.row h4
  simp only [cT] at h4 ⊢
  have r4 := Hd.mk (RT.mono (S' := fun _ => True) (fun _ _ _ => trivial) h4)
  clear h4 hx
  go_wp2_with fail
  replace k6 := Hd.mk (k6.out.trans (Ext.alloc w7 (.cells #[.string (leafT 2).name, .string (leafT 2).key, .int .i64 (leafT 2).kind, .int .u64 (leafT 2).num, .string (leafT 2).text, .slice K4 (leafT 2).kids.length k4] 54)))
  replace r4 := Hd.mk (r4.out.ext (Ext.alloc w7 (.cells #[.string (leafT 2).name, .string (leafT 2).key, .int .i64 (leafT 2).kind, .int .u64 (leafT 2).num, .string (leafT 2).text, .slice K4 (leafT 2).kids.length k4] 54)))
  have b4 := Hd.mk (Blk.new w7 #[.string (leafT 2).name, .string (leafT 2).key, .int .i64 (leafT 2).kind, .int .u64 (leafT 2).num, .string (leafT 2).text, .slice K4 (leafT 2).kids.length k4] 54)
  generalize w7.heap.size = p4 at *
  generalize w7.alloc _ = W7 at *
  refine Calls.mono (hAt2.out _ k6.out) ?_
  rintro e w8 ⟨_, rfl, c5, rfl, h5, hx⟩
  replace k6 := Hd.mk (k6.out.trans hx)
  replace r4 := Hd.mk (r4.out.ext hx)
  replace b4 := Hd.mk (b4.out.ext hx)
  obtain ⟨K5, k5, rfl, _⟩ := RT.row h5
  simp only [cT] at h5 ⊢
  have r5 := Hd.mk (RT.mono (S' := fun _ => True) (fun _ _ _ => trivial) h5)
  clear h5 hx
  go_wp2_with fail
  replace k6 := Hd.mk (k6.out.trans (Ext.alloc w8 (.cells #[.string (leafT 1).name, .string (leafT 1).key, .int .i64 (leafT 1).kind, .int .u64 (leafT 1).num, .string (leafT 1).text, .slice K5 (leafT 1).kids.length k5] 54)))
  replace r5 := Hd.mk (r5.out.ext (Ext.alloc w8 (.cells #[.string (leafT 1).name, .string (leafT 1).key, .int .i64 (leafT 1).kind, .int .u64 (leafT 1).num, .string (leafT 1).text, .slice K5 (leafT 1).kids.length k5] 54)))
  replace r4 := Hd.mk (r4.out.ext (Ext.alloc w8 (.cells #[.string (leafT 1).name, .string (leafT 1).key, .int .i64 (leafT 1).kind, .int .u64 (leafT 1).num, .string (leafT 1).text, .slice K5 (leafT 1).kids.length k5] 54)))
  replace b4 := Hd.mk (b4.out.ext (Ext.alloc w8 (.cells #[.string (leafT 1).name, .string (leafT 1).key, .int .i64 (leafT 1).kind, .int .u64 (leafT 1).num, .string (leafT 1).text, .slice K5 (leafT 1).kids.length k5] 54)))
  have b5 := Hd.mk (Blk.new w8 #[.string (leafT 1).name, .string (leafT 1).key, .int .i64 (leafT 1).kind, .int .u64 (leafT 1).num, .string (leafT 1).text, .slice K5 (leafT 1).kids.length k5] 54)
  generalize w8.heap.size = p5 at *
  generalize w8.alloc _ = W8 at *
  refine Calls.mono (hAt3.out _ k6.out) ?_
  rintro e w9 ⟨_, rfl, rfl, hx⟩
  replace k6 := Hd.mk (k6.out.trans hx)
  replace r4 := Hd.mk (r4.out.ext hx)
  replace b4 := Hd.mk (b4.out.ext hx)
  replace r5 := Hd.mk (r5.out.ext hx)
  replace b5 := Hd.mk (b5.out.ext hx)
  clear hx
  go_wp2_with fail
  replace k6 := Hd.mk (k6.out.trans (Ext.alloc w9 (.cells #[.string ⟨#[]⟩, .string ⟨#[]⟩, .int .i64 0, .int .u64 0, .string ⟨#[]⟩, .slice none 0 0] 54)))
  replace r4 := Hd.mk (r4.out.ext (Ext.alloc w9 (.cells #[.string ⟨#[]⟩, .string ⟨#[]⟩, .int .i64 0, .int .u64 0, .string ⟨#[]⟩, .slice none 0 0] 54)))
  replace b4 := Hd.mk (b4.out.ext (Ext.alloc w9 (.cells #[.string ⟨#[]⟩, .string ⟨#[]⟩, .int .i64 0, .int .u64 0, .string ⟨#[]⟩, .slice none 0 0] 54)))
  replace r5 := Hd.mk (r5.out.ext (Ext.alloc w9 (.cells #[.string ⟨#[]⟩, .string ⟨#[]⟩, .int .i64 0, .int .u64 0, .string ⟨#[]⟩, .slice none 0 0] 54)))
  replace b5 := Hd.mk (b5.out.ext (Ext.alloc w9 (.cells #[.string ⟨#[]⟩, .string ⟨#[]⟩, .int .i64 0, .int .u64 0, .string ⟨#[]⟩, .slice none 0 0] 54)))
  generalize w9.alloc _ = W at *
  replace kP := Hd.mk (kP.out.ext k6.out)
  replace kx := Hd.mk (kx.out.trans k6.out)
  clear hAt1 hAt2 hAt3
  refine Flow.wp_region_flow_l (fun qq => match qq with
    | 39 => SP.eq (.int .i64 0)
    | 40 => SP.eq (.bool true)
    | 41 => SP.eq (.bool true)
    | 42 => SP.eq (.int .i64 0)
    | 43 => SP.eq (.bool true)
    | 44 => SP.eq (.bool true)
    | 45 => SP.eq (.bool true)
    | 46 => SP.eq (.int .i64 0)
    | 47 => SP.eq (.bool true)
    | 48 => SP.eq (.bool true)
    | 49 => SP.eq (.bool true)
    | 50 => SP.eq (.int .i64 0)
    | 51 => SP.eq (.bool true)
    | 52 => SP.eq (.bool true)
    | 53 => SP.eq (.bool true)
    | 54 => SP.eq (.int .i64 2)
    | 55 => SP.eq (.bool true)
    | 56 => SP.eq (.bool true)
    | 57 => SP.eq (.bool true)
    | 58 => SP.eq (.agg #[.string (leafT 2).name, .string (leafT 2).key, .int .i64 (leafT 2).kind, .int .u64 (leafT 2).num, .string (leafT 2).text, .slice K4 (leafT 2).kids.length k4])
    | 59 => spLf (leafT 2)
    | 60 => SP.eq (.bool true)
    | 61 => SP.eq (.bool true)
    | 62 => SP.eq (.bool true)
    | 63 => SP.eq (.agg #[.string (leafT 1).name, .string (leafT 1).key, .int .i64 (leafT 1).kind, .int .u64 (leafT 1).num, .string (leafT 1).text, .slice K5 (leafT 1).kids.length k5])
    | 64 => spLf (leafT 1)
    | 65 => SP.eq (.bool true)
    | 66 => SP.eq (.bool true)
    | 67 => SP.eq (.bool true)
    | 68 => SP.eq (.pointer (some ⟨p, 0, none⟩))
    | 69 => SP.eq (.int .i64 2)
    | 70 => SP.eq (.bool true)
    | 71 => SP.eq (.bool true)
    | 72 => SP.eq (.bool true)
    | 73 => SP.eq (.pointer (some ⟨p, 0, none⟩))
    | _ => SP.any) 35 (by kernel_rfl) 82 rfl (by kernel_rfl) ?_ ?_
  · skip
    refine ⟨?_, ?_, ?_, ?_, ?_, ?_, ?_, ?_, ?_, ?_, ?_, ?_, ?_, ?_, ?_, ?_, ?_, ?_, ?_, ?_, ?_, ?_, ?_, ?_, ?_, ?_, ?_, ?_, ?_, ?_, ?_, ?_, ?_, ?_, ?_, trivial⟩
    · intro act W2 hk
      refine Flow.does_intro rfl (fun Kq hK => ?_)
      have e2 : act.tmps[2]?.getD undef = .int .i64 0 := hk.o 2 (by kernel_rfl)
      clear hk
      go_simp
      exact hK _ _ (Ext.refl _) (fun d hd => by cases hd; rfl)
    · intro act W2 hk
      refine Flow.does_intro rfl (fun Kq hK => ?_)
      have e39 : act.tmps[39]?.getD undef = .int .i64 0 := hk.v 39 (by kernel_rfl)
      clear hk
      go_simp
      exact hK _ _ (Ext.refl _) (fun d hd => by cases hd; rfl)
    · intro act W2 hk
      refine Flow.does_intro rfl (fun Kq hK => ?_)
      have e40 : act.tmps[40]?.getD undef = .bool true := hk.v 40 (by kernel_rfl)
      clear hk
      go_simp
      exact hK _ _ (Ext.refl _) (fun d hd => by cases hd; rfl)
    · intro act W2 hk
      have eg : act.tmps[41]?.getD undef = .bool true := hk.v 41 (by kernel_rfl)
      refine Flow.does_intro (wanted_yes rfl rfl eg) (fun Kq hK => ?_)
      clear eg
      have e3 : act.tmps[3]?.getD undef = .int .i64 0 := hk.o 3 (by kernel_rfl)
      clear hk
      go_simp
      exact hK _ _ (Ext.refl _) (fun d hd => by cases hd; rfl)
    · intro act W2 hk
      have eg : act.tmps[41]?.getD undef = .bool true := hk.v 41 (by kernel_rfl)
      refine Flow.does_intro (wanted_yes rfl rfl eg) (fun Kq hK => ?_)
      clear eg
      have e42 : act.tmps[42]?.getD undef = .int .i64 0 := hk.v 42 (by kernel_rfl)
      clear hk
      go_simp
      exact hK _ _ (Ext.refl _) (fun d hd => by cases hd; rfl)
    · intro act W2 hk
      refine Flow.does_intro rfl (fun Kq hK => ?_)
      have e41 : act.tmps[41]?.getD undef = .bool true := hk.v 41 (by kernel_rfl)
      have e43 : act.tmps[43]?.getD undef = .bool true := hk.v 43 (by kernel_rfl)
      clear hk
      go_simp
      exact hK _ _ (Ext.refl _) (fun d hd => by cases hd; rfl)
    · intro act W2 hk
      refine Flow.does_intro rfl (fun Kq hK => ?_)
      have e44 : act.tmps[44]?.getD undef = .bool true := hk.v 44 (by kernel_rfl)
      clear hk
      go_simp
      exact hK _ _ (Ext.refl _) (fun d hd => by cases hd; rfl)
    · intro act W2 hk
      have eg : act.tmps[45]?.getD undef = .bool true := hk.v 45 (by kernel_rfl)
      refine Flow.does_intro (wanted_yes rfl rfl eg) (fun Kq hK => ?_)
      clear eg
      have e5 : act.tmps[5]?.getD undef = .int .i64 0 := hk.o 5 (by kernel_rfl)
      clear hk
      go_simp
      exact hK _ _ (Ext.refl _) (fun d hd => by cases hd; rfl)
    · intro act W2 hk
      have eg : act.tmps[45]?.getD undef = .bool true := hk.v 45 (by kernel_rfl)
      refine Flow.does_intro (wanted_yes rfl rfl eg) (fun Kq hK => ?_)
      clear eg
      have e46 : act.tmps[46]?.getD undef = .int .i64 0 := hk.v 46 (by kernel_rfl)
      clear hk
      go_simp
      exact hK _ _ (Ext.refl _) (fun d hd => by cases hd; rfl)
    · intro act W2 hk
      refine Flow.does_intro rfl (fun Kq hK => ?_)
      have e45 : act.tmps[45]?.getD undef = .bool true := hk.v 45 (by kernel_rfl)
      have e47 : act.tmps[47]?.getD undef = .bool true := hk.v 47 (by kernel_rfl)
      clear hk
      go_simp
      exact hK _ _ (Ext.refl _) (fun d hd => by cases hd; rfl)
    · intro act W2 hk
      refine Flow.does_intro rfl (fun Kq hK => ?_)
      have e48 : act.tmps[48]?.getD undef = .bool true := hk.v 48 (by kernel_rfl)
      clear hk
      go_simp
      exact hK _ _ (Ext.refl _) (fun d hd => by cases hd; rfl)
    · intro act W2 hk
      have eg : act.tmps[49]?.getD undef = .bool true := hk.v 49 (by kernel_rfl)
      refine Flow.does_intro (wanted_yes rfl rfl eg) (fun Kq hK => ?_)
      clear eg
      have e7 : act.tmps[7]?.getD undef = .int .i64 0 := hk.o 7 (by kernel_rfl)
      clear hk
      go_simp
      exact hK _ _ (Ext.refl _) (fun d hd => by cases hd; rfl)
    · intro act W2 hk
      have eg : act.tmps[49]?.getD undef = .bool true := hk.v 49 (by kernel_rfl)
      refine Flow.does_intro (wanted_yes rfl rfl eg) (fun Kq hK => ?_)
      clear eg
      have e50 : act.tmps[50]?.getD undef = .int .i64 0 := hk.v 50 (by kernel_rfl)
      clear hk
      go_simp
      exact hK _ _ (Ext.refl _) (fun d hd => by cases hd; rfl)
    · intro act W2 hk
      refine Flow.does_intro rfl (fun Kq hK => ?_)
      have e49 : act.tmps[49]?.getD undef = .bool true := hk.v 49 (by kernel_rfl)
      have e51 : act.tmps[51]?.getD undef = .bool true := hk.v 51 (by kernel_rfl)
      clear hk
      go_simp
      exact hK _ _ (Ext.refl _) (fun d hd => by cases hd; rfl)
    · intro act W2 hk
      refine Flow.does_intro rfl (fun Kq hK => ?_)
      have e52 : act.tmps[52]?.getD undef = .bool true := hk.v 52 (by kernel_rfl)
      clear hk
      go_simp
      exact hK _ _ (Ext.refl _) (fun d hd => by cases hd; rfl)
    · intro act W2 hk
      have eg : act.tmps[53]?.getD undef = .bool true := hk.v 53 (by kernel_rfl)
      refine Flow.does_intro (wanted_yes rfl rfl eg) (fun Kq hK => ?_)
      clear eg
      have e9 : act.tmps[9]?.getD undef = .int .i64 2 := hk.o 9 (by kernel_rfl)
      clear hk
      go_simp
      exact hK _ _ (Ext.refl _) (fun d hd => by cases hd; rfl)
    · intro act W2 hk
      have eg : act.tmps[53]?.getD undef = .bool true := hk.v 53 (by kernel_rfl)
      refine Flow.does_intro (wanted_yes rfl rfl eg) (fun Kq hK => ?_)
      clear eg
      have e54 : act.tmps[54]?.getD undef = .int .i64 2 := hk.v 54 (by kernel_rfl)
      clear hk
      go_simp
      exact hK _ _ (Ext.refl _) (fun d hd => by cases hd; rfl)
    · intro act W2 hk
      refine Flow.does_intro rfl (fun Kq hK => ?_)
      have e53 : act.tmps[53]?.getD undef = .bool true := hk.v 53 (by kernel_rfl)
      have e55 : act.tmps[55]?.getD undef = .bool true := hk.v 55 (by kernel_rfl)
      clear hk
      go_simp
      exact hK _ _ (Ext.refl _) (fun d hd => by cases hd; rfl)
    · intro act W2 hk
      refine Flow.does_intro rfl (fun Kq hK => ?_)
      have e56 : act.tmps[56]?.getD undef = .bool true := hk.v 56 (by kernel_rfl)
      clear hk
      go_simp
      exact hK _ _ (Ext.refl _) (fun d hd => by cases hd; rfl)
    · intro act W2 hk
      have eg : act.tmps[57]?.getD undef = .bool true := hk.v 57 (by kernel_rfl)
      refine Flow.does_intro (wanted_yes rfl rfl eg) (fun Kq hK => ?_)
      clear eg
      have e4 : act.tmps[4]?.getD undef = .pointer (some ⟨p4, 0, none⟩) := hk.o 4 (by kernel_rfl)
      have g := ((b4.out).ext ((Ext.drew W).trans hk.ext)).cell
      clear hk
      go_simp
      exact hK _ _ (Ext.refl _) (fun d hd => by cases hd; rfl)
    · intro act W2 hk
      have eg : act.tmps[57]?.getD undef = .bool true := hk.v 57 (by kernel_rfl)
      refine Flow.does_intro (wanted_yes rfl rfl eg) (fun Kq hK => ?_)
      clear eg
      have hx0 := Hd.mk ((Ext.drew W).trans hk.ext)
      clear hk
      go_simp
      refine Calls.mono (leaf28 2 W2) ?_
      rintro e W3 ⟨_, rfl, c9, rfl, hr9, hx⟩
      exact hK _ _ hx (fun d hd => by cases hd; exact ⟨c9, rfl, hr9⟩)
    · intro act W2 hk
      have eg : act.tmps[57]?.getD undef = .bool true := hk.v 57 (by kernel_rfl)
      refine Flow.does_intro (wanted_yes rfl rfl eg) (fun Kq hK => ?_)
      clear eg
      have e58 : act.tmps[58]?.getD undef = .agg #[.string (leafT 2).name, .string (leafT 2).key, .int .i64 (leafT 2).kind, .int .u64 (leafT 2).num, .string (leafT 2).text, .slice K4 (leafT 2).kids.length k4] := hk.v 58 (by kernel_rfl)
      have hx0 := Hd.mk ((Ext.drew W).trans hk.ext)
      obtain ⟨c9, e59, h59⟩ := (hk.v 59 (by kernel_rfl) : (spLf (leafT 2)).p _ _)
      have hsm := ref_same _ _ _ (fun _ => True) _ _ _ (Nat.le_refl _) (r4.out.ext hx0.out) h59
      rw [sameT_rfl] at hsm
      replace hsm := Hd.mk hsm
      clear hk
      go_simp
      refine Calls.mono (hsm.out) ?_
      rintro e W3 ⟨rfl, hx⟩
      exact hK _ _ hx (fun d hd => by cases hd; rfl)
    · intro act W2 hk
      refine Flow.does_intro rfl (fun Kq hK => ?_)
      have e57 : act.tmps[57]?.getD undef = .bool true := hk.v 57 (by kernel_rfl)
      have e60 : act.tmps[60]?.getD undef = .bool true := hk.v 60 (by kernel_rfl)
      clear hk
      go_simp
      exact hK _ _ (Ext.refl _) (fun d hd => by cases hd; rfl)
    · intro act W2 hk
      refine Flow.does_intro rfl (fun Kq hK => ?_)
      have e61 : act.tmps[61]?.getD undef = .bool true := hk.v 61 (by kernel_rfl)
      clear hk
      go_simp
      exact hK _ _ (Ext.refl _) (fun d hd => by cases hd; rfl)
    · intro act W2 hk
      have eg : act.tmps[62]?.getD undef = .bool true := hk.v 62 (by kernel_rfl)
      refine Flow.does_intro (wanted_yes rfl rfl eg) (fun Kq hK => ?_)
      clear eg
      have e6 : act.tmps[6]?.getD undef = .pointer (some ⟨p5, 0, none⟩) := hk.o 6 (by kernel_rfl)
      have g := ((b5.out).ext ((Ext.drew W).trans hk.ext)).cell
      clear hk
      go_simp
      exact hK _ _ (Ext.refl _) (fun d hd => by cases hd; rfl)
    · intro act W2 hk
      have eg : act.tmps[62]?.getD undef = .bool true := hk.v 62 (by kernel_rfl)
      refine Flow.does_intro (wanted_yes rfl rfl eg) (fun Kq hK => ?_)
      clear eg
      have hx0 := Hd.mk ((Ext.drew W).trans hk.ext)
      clear hk
      go_simp
      refine Calls.mono (leaf28 1 W2) ?_
      rintro e W3 ⟨_, rfl, c9, rfl, hr9, hx⟩
      exact hK _ _ hx (fun d hd => by cases hd; exact ⟨c9, rfl, hr9⟩)
    · intro act W2 hk
      have eg : act.tmps[62]?.getD undef = .bool true := hk.v 62 (by kernel_rfl)
      refine Flow.does_intro (wanted_yes rfl rfl eg) (fun Kq hK => ?_)
      clear eg
      have e63 : act.tmps[63]?.getD undef = .agg #[.string (leafT 1).name, .string (leafT 1).key, .int .i64 (leafT 1).kind, .int .u64 (leafT 1).num, .string (leafT 1).text, .slice K5 (leafT 1).kids.length k5] := hk.v 63 (by kernel_rfl)
      have hx0 := Hd.mk ((Ext.drew W).trans hk.ext)
      obtain ⟨c9, e64, h64⟩ := (hk.v 64 (by kernel_rfl) : (spLf (leafT 1)).p _ _)
      have hsm := ref_same _ _ _ (fun _ => True) _ _ _ (Nat.le_refl _) (r5.out.ext hx0.out) h64
      rw [sameT_rfl] at hsm
      replace hsm := Hd.mk hsm
      clear hk
      go_simp
      refine Calls.mono (hsm.out) ?_
      rintro e W3 ⟨rfl, hx⟩
      exact hK _ _ hx (fun d hd => by cases hd; rfl)
    · intro act W2 hk
      refine Flow.does_intro rfl (fun Kq hK => ?_)
      have e62 : act.tmps[62]?.getD undef = .bool true := hk.v 62 (by kernel_rfl)
      have e65 : act.tmps[65]?.getD undef = .bool true := hk.v 65 (by kernel_rfl)
      clear hk
      go_simp
      exact hK _ _ (Ext.refl _) (fun d hd => by cases hd; rfl)
    · intro act W2 hk
      refine Flow.does_intro rfl (fun Kq hK => ?_)
      have e66 : act.tmps[66]?.getD undef = .bool true := hk.v 66 (by kernel_rfl)
      clear hk
      go_simp
      exact hK _ _ (Ext.refl _) (fun d hd => by cases hd; rfl)
    · intro act W2 hk
      have eg : act.tmps[67]?.getD undef = .bool true := hk.v 67 (by kernel_rfl)
      refine Flow.does_intro (wanted_yes rfl rfl eg) (fun Kq hK => ?_)
      clear eg
      have e1 : act.tmps[1]?.getD undef = .pointer (some ⟨p, 0, none⟩) := hk.o 1 (by kernel_rfl)
      clear hk
      go_simp
      exact hK _ _ (Ext.refl _) (fun d hd => by cases hd; rfl)
    · intro act W2 hk
      have eg : act.tmps[67]?.getD undef = .bool true := hk.v 67 (by kernel_rfl)
      refine Flow.does_intro (wanted_yes rfl rfl eg) (fun Kq hK => ?_)
      clear eg
      have e68 : act.tmps[68]?.getD undef = .pointer (some ⟨p, 0, none⟩) := hk.v 68 (by kernel_rfl)
      have hx0 := Hd.mk ((Ext.drew W).trans hk.ext)
      clear hk
      go_simp
      refine Calls.mono (past_len (fun _ => True) W2 p V2 l (kP.out.ext hx0.out)) ?_
      rintro e W3 ⟨rfl, hx⟩
      exact hK _ _ hx (fun d hd => by cases hd; simp only [hlen.out]; rfl)
    · intro act W2 hk
      have eg : act.tmps[67]?.getD undef = .bool true := hk.v 67 (by kernel_rfl)
      refine Flow.does_intro (wanted_yes rfl rfl eg) (fun Kq hK => ?_)
      clear eg
      have e69 : act.tmps[69]?.getD undef = .int .i64 2 := hk.v 69 (by kernel_rfl)
      clear hk
      go_simp
      exact hK _ _ (Ext.refl _) (fun d hd => by cases hd; rfl)
    · intro act W2 hk
      refine Flow.does_intro rfl (fun Kq hK => ?_)
      have e67 : act.tmps[67]?.getD undef = .bool true := hk.v 67 (by kernel_rfl)
      have e70 : act.tmps[70]?.getD undef = .bool true := hk.v 70 (by kernel_rfl)
      clear hk
      go_simp
      exact hK _ _ (Ext.refl _) (fun d hd => by cases hd; rfl)
    · intro act W2 hk
      refine Flow.does_intro rfl (fun Kq hK => ?_)
      have e71 : act.tmps[71]?.getD undef = .bool true := hk.v 71 (by kernel_rfl)
      clear hk
      go_simp
      exact hK _ _ (Ext.refl _) (fun d hd => by cases hd; rfl)
    · intro act W2 hk
      have eg : act.tmps[72]?.getD undef = .bool true := hk.v 72 (by kernel_rfl)
      refine Flow.does_intro (wanted_yes rfl rfl eg) (fun Kq hK => ?_)
      clear eg
      have e1 : act.tmps[1]?.getD undef = .pointer (some ⟨p, 0, none⟩) := hk.o 1 (by kernel_rfl)
      clear hk
      go_simp
      exact hK _ _ (Ext.refl _) (fun d hd => by cases hd; rfl)
  · intro act W2 he
    have hxW2 := Hd.mk ((Ext.drew W).trans he.ext)
    obtain ⟨us, hA, hF⟩ := he.out [39, 40, 41, 42, 43, 44, 45, 46, 47, 48, 49, 50, 51, 52, 53, 54, 55, 56, 57, 58, 59, 60, 61, 62, 63, 64, 65, 66, 67, 68, 69, 70, 71, 72, 73] (by kernel_rfl)
    simp only [Flow.fillL, List.contains_cons, List.contains_nil, Nat.reduceBEq, Bool.or_false, Bool.false_or, Bool.or_true, Bool.true_or, ↓reduceIte, Nat.reduceAdd, Bool.false_eq_true] at hA
    subst hA
    have f72 : us 72 = .bool true := hF 72 (by simp)
    have f73 : us 73 = .pointer (some ⟨p, 0, none⟩) := hF 73 (by simp)
    clear hF he
    rw [f72]
    clear f72
    rw [f73]
    clear f73
    replace kP := Hd.mk (kP.out.ext hxW2.out)
    replace kx := Hd.mk (kx.out.trans hxW2.out)
    clear hxW2
    go_wp2_with fail
    refine Calls.mono (past_prune (fun _ => True) W2 p V2 l 1 1 kP.out (fun _ _ => trivial) (by rw [hlen.out]; decide)) ?_
    rintro e w10 ⟨rfl, V3, hP, hF⟩
    replace kx := Hd.mk (past_ext kx.out hpw.out kP.out hF)
    have kP3 := Hd.mk hP
    clear hP hF
    go_wp2_with fail
    refine Calls.mono (past_len (fun _ => True) w10 p V3 _ kP3.out) ?_
    rintro e w11 ⟨rfl, hx⟩
    replace kx := Hd.mk (kx.out.trans hx)
    have hl1 : (l.drop 1).length = 1 := by rw [List.length_drop, hlen.out]
    rw [hl1]
    clear hl1 hx
    go_wp2_with fail
    go_ret
    exact ⟨rfl, kx.out⟩
end Go.Proofs.Ytgkgedjmnbjalaa
set_option linter.unusedSimpArgs false
set_option linter.unusedVariables false
namespace Go.Proofs.Ytgkgedjmnbjalaa
open Go.RowKit Go.Sort
structure Out (D : Nat → Prop) (w w' : World) : Prop where
  os : w'.os = w.os
  tape : w'.tape = w.tape
  output : w'.output = w.output
  size : w.heap.size ≤ w'.heap.size
  block : ∀ b, b < w.heap.size → ¬ D b → w'.heap[b]? = w.heap[b]?
theorem Out.of_upd {w w' : World} {g : Nat} (h : Upd w w' g) : Out (· = g) w w' := ⟨h.os, h.tape, h.output, Nat.le_of_eq h.size.symm, fun b _ hn => h.block b hn⟩
theorem Out.of_touch {S : Nat → Prop} {w w' : World} (h : Touch S w w') : Out S w w' := ⟨h.os, h.tape, h.output, h.size, h.block⟩
theorem Out.of_fr {p : Nat} {w w' : World} {V V' : Value} (h : Fr p w V w' V') : Out (fun b => b = p ∨ V.ownBlock = some b) w w' := ⟨h.os, h.tape, h.output, h.size, fun b hb hn => h.block b hb (fun e => hn (.inl e)) (fun e => hn (.inr e))⟩
theorem Out.of_ext {w w' : World} (h : Ext w w') : Out (fun _ => False) w w' := ⟨h.os, h.tape, h.output, h.size, fun b hb _ => h.block b hb⟩
theorem Out.blk {D : Nat → Prop} {w w' : World} (h : Out D w w') {g : Nat} {cs : List Value} {t : TypeId} (hb : Blk w g cs t) (hn : ¬ D g) : Blk w' g cs t := (h.block g hb.lt hn).trans hb
theorem Out.keep {D S S' : Nat → Prop} {w w' : World} (h : Out D w w') (hs : ∀ b, b < w.heap.size → S b → ¬ D b ∧ S' b) : ∀ b off u, S b → w.cell? ⟨b, off, none⟩ = some u → S' b ∧ w'.cell? ⟨b, off, none⟩ = some u := fun b off u hb hc => by
  have hlt := World.block_lt_of_cell? w _ hc
  refine ⟨(hs b hlt hb).2, ?_⟩
  rw [← hc]
  exact World.cell?_of_block (h.block b hlt (hs b hlt hb).1)
theorem Out.below {D : Nat → Prop} {w w' : World} (h : Out D w w') {B : Nat} (hB : B ≤ w.heap.size) (hD : ∀ b, b < B → ¬ D b) : Below B w w' := ⟨h.os, h.tape, h.output, h.size, fun b hb => h.block b (Nat.lt_of_lt_of_le hb hB) (hD b hb)⟩
theorem own_out {D : Nat → Prop} {w w' : World} {base : Nat} {e : TypeId} {sz n : Nat} {v : Value} {xs : List Value} (h : w.ownsRow base e sz v n xs) (ho : Out D w w') (hn : ∀ b, v.ownBlock = some b → ¬ D b) : w'.ownsRow base e sz v n xs := by
  refine ⟨h.1, ?_⟩
  rcases h.2 with h1 | ⟨g, cap, cur, rfl, hb, hgg, rest⟩
  · exact .inl h1
  · refine .inr ⟨g, cap, cur, rfl, hb, ?_, rest⟩
    rw [ho.block g (Array.getElem?_eq_some_iff.1 hgg).1 (hn g rfl)]
    exact hgg
theorem PastR.out {G G' D : Nat → Prop} {w w' : World} {p : Nat} {V : Value} {l : List Pe} (h : PastR G w p V l) (ho : Out D w w') (hp : ¬ D p) (hv : ∀ b, V.ownBlock = some b → ¬ D b) (hg : ∀ b, b < w.heap.size → G b → ¬ D b ∧ G' b) : PastR G' w' p V l :=
  ⟨ho.blk h.box hp, own_out h.own ho hv, h.len, fun b hb => (hg b (own_lt h.own b hb) (h.row b hb)).2, fun x hm => (h.each x hm).keep (ho.keep fun b hb hS => ⟨(hg b hb hS.2.2).1, hS.1, hS.2.1, (hg b hb hS.2.2).2⟩)⟩
theorem PastR.mono {G G' : Nat → Prop} {w : World} {p : Nat} {V : Value} {l : List Pe} (h : PastR G w p V l) (hg : ∀ b, b < w.heap.size → G b → G' b) : PastR G' w p V l :=
  h.out (Out.of_ext (Ext.refl w)) (fun h => h) (fun _ _ h => h) (fun b hb hG => ⟨fun h => h, hg b hb hG⟩)
structure I28 (w : World) (G : Nat → Prop) (p pN : Nat) (W : World) (V : Value) (lp : List Pe) (ts : List T) (now : T) (Kn : Option Addr) (kn : Nat) : Prop where
  kx : Ext w W
  pr : PastR G W p V lp
  pw : w.heap.size ≤ p
  lo : w.heap.size ≤ pN
  box : Blk W pN [.string now.name, .string now.key, .int .i64 now.kind, .int .u64 now.num, .string now.text, .slice Kn now.kids.length kn] 54
  ne : pN ≠ p
  nv : V.ownBlock ≠ some pN
  rt : RT (fun b => b < w.heap.size) w now [.string now.name, .string now.key, .int .i64 now.kind, .int .u64 now.num, .string now.text, .slice Kn now.kids.length kn]
  tr : Trail lp (ts ++ [now])
  hG : ∀ b, W.heap.size ≤ b → G b
theorem I28.rtW {w W W' : World} {G : Nat → Prop} {p pN : Nat} {V : Value} {lp : List Pe} {ts : List T} {now : T} {Kn : Option Addr} {kn : Nat} (h : I28 w G p pN W V lp ts now Kn kn) (S : Nat → Prop) (hx : Ext w W') (hS : ∀ b, b < w.heap.size → S b) : RT S W' now [.string now.name, .string now.key, .int .i64 now.kind, .int .u64 now.num, .string now.text, .slice Kn now.kids.length kn] := (h.rt.ext hx).mono fun b _ hb => hS b hb
theorem I28.ext {w W W' : World} {G : Nat → Prop} {p pN : Nat} {V : Value} {lp : List Pe} {ts : List T} {now : T} {Kn : Option Addr} {kn : Nat} (h : I28 w G p pN W V lp ts now Kn kn) (hx : Ext W W') : I28 w G p pN W' V lp ts now Kn kn :=
  ⟨h.kx.trans hx, h.pr.ext hx, h.pw, h.lo, h.box.ext hx, h.ne, h.nv, h.rt, h.tr, fun b hb => h.hG b (Nat.le_trans hx.size hb)⟩
theorem I28.len {w W : World} {G : Nat → Prop} {p pN : Nat} {V : Value} {lp : List Pe} {ts : List T} {now : T} {Kn : Option Addr} {kn : Nat} (h : I28 w G p pN W V lp ts now Kn kn) : lp.length = ts.length := by have := h.tr.len; simp at this; omega
theorem I28.callLen {w W : World} {G : Nat → Prop} {p pN : Nat} {V : Value} {lp : List Pe} {ts : List T} {now : T} {Kn : Option Addr} {kn : Nat} (h : I28 w G p pN W V lp ts now Kn kn) : Calls Try.prog 84 #[.pointer (some ⟨p, 0, none⟩)] W fun e w' => e = .returned (.int .i64 (ts.length : Nat)) ∧ Ext W w' := by
  have h9 := past_len G W p V lp h.pr
  rw [h.len] at h9
  exact h9
end Go.Proofs.Ytgkgedjmnbjalaa
set_option linter.unusedSimpArgs false
set_option linter.unusedVariables false
namespace Go.Proofs.Ytgkgedjmnbjalaa
open Go.RowKit Go.Sort
theorem may28_yes {l : List S28} (h : may28 l = true) : (∀ (i : Nat) s, l[i]? = some s → mayT s.tree = true) ∧ l.length ≤ 40 := by
  simp only [may28, Bool.and_eq_true, List.all_eq_true, decide_eq_true_eq] at h
  exact ⟨fun i s hi => h.1 s (List.mem_of_getElem? hi), h.2⟩
end Go.Proofs.Ytgkgedjmnbjalaa
set_option linter.unusedSimpArgs false
set_option linter.unusedVariables false
namespace Go.Proofs.Ytgkgedjmnbjalaa
open Go.RowKit Go.Sort
theorem I28.out {w W W' : World} {G G' D : Nat → Prop} {p pN : Nat} {V : Value} {lp : List Pe} {ts : List T} {now : T} {Kn : Option Addr} {kn : Nat} (h : I28 w G p pN W V lp ts now Kn kn) (ho : Out D W W') (hp : ¬ D p) (hn : ¬ D pN) (hv : ∀ b, V.ownBlock = some b → ¬ D b) (hw : ∀ b, b < w.heap.size → ¬ D b) (hg : ∀ b, b < W.heap.size → G b → ¬ D b ∧ G' b) (hG' : ∀ b, W'.heap.size ≤ b → G' b) : I28 w G' p pN W' V lp ts now Kn kn :=
  ⟨Below.trans h.kx (ho.below h.kx.size hw), h.pr.out ho hp hv hg, h.pw, h.lo, ho.blk h.box hn, h.ne, h.nv, h.rt, h.tr, hG'⟩
theorem I28.turn {w W W2 : World} {G G' : Nat → Prop} {p pN : Nat} {V V' : Value} {lp : List Pe} {ts : List T} {now x : T} {Kn Kx A : Option Addr} {kn kx0 c : Nat} (h : I28 w G p pN W V lp ts now Kn kn) (hx : Ext w W2) (hP : PastR G' W2 p V' (lp ++ [(inverse (edits 200 now x []), A, c)])) (hb : Blk W2 pN [.string x.name, .string x.key, .int .i64 x.kind, .int .u64 x.num, .string x.text, .slice Kx x.kids.length kx0] 54) (hnv : V'.ownBlock ≠ some pN) (hr : RT (fun b => b < w.heap.size) w x [.string x.name, .string x.key, .int .i64 x.kind, .int .u64 x.num, .string x.text, .slice Kx x.kids.length kx0]) (hm : mayT x = true) (hG : ∀ b, W2.heap.size ≤ b → G' b) : I28 w G' p pN W2 V' (lp ++ [(inverse (edits 200 now x []), A, c)]) (ts ++ [now]) x Kx kx0 :=
  ⟨hx, hP, h.pw, h.lo, hb, h.ne, hnv, hr, h.tr.push hm, hG⟩
end Go.Proofs.Ytgkgedjmnbjalaa

/- The law holds for every input of bulk at most 1048576, and the input reads as it did; with the last of the texts that it needs.
   Conditions: none. -/
import Derived.Test.YtgkgedjmnbjalaaPtM
import Derived.Test.YtgkgedjmnbjalaaRows
import Derived.WalkKit
import Derived.ProofKit
import Derived.OpenShut
import Derived.ShutString
import Derived.ChangeOld
import Derived.Below
import Derived.SizedLaws
import Derived.SliceStrings
import Derived.JoinedCond
set_option linter.unusedSimpArgs false
set_option linter.unusedVariables false
namespace Go.Proofs.Ytgkgedjmnbjalaa
open Go.RowKit Go.Sort
set_option maxRecDepth 100000 in
set_option maxHeartbeats 4000000 in
theorem tells17_walk (n : T) (es : List E) (w : World) (c : List Value) (A : Option Addr) (ac : Nat) (h : RT (fun _ => True) w n c) (he : ERow (fun _ => True) w A es ac) (hsn : n.size ≤ 1048576) (hse : ∀ (i : Nat) e, es[i]? = some e → e.node.size ≤ 1048576 ∧ e.old.size ≤ 1048576) :
    Calls Try.prog 11 #[.agg c.toArray, .slice A es.length ac] w fun e w' => e = .returned (.bool true) ∧ Ext w w' := by
  obtain ⟨Kn, kn, rfl, _⟩ := h.row
  have kr := Hd.mk h
  have ke := Hd.mk he
  have hl1 := he.len
  replace hsn := Hd.mk hsn
  replace hse := Hd.mk hse
  clear h he
  simp only [cT] at kr ⊢
  go_enter Try.func11, Try.ntmps11
  go_wp2_with fail
  refine Calls.mono (awake17 _) ?_
  rintro e w1 ⟨rfl, hx⟩
  have kx := Hd.mk ((Ext.alloc w (.cells #[.string n.name, .string n.key, .int .i64 n.kind, .int .u64 n.num, .string n.text, .slice Kn n.kids.length kn] 54)).trans hx)
  have kN := Hd.mk ((Blk.new w #[.string n.name, .string n.key, .int .i64 n.kind, .int .u64 n.num, .string n.text, .slice Kn n.kids.length kn] 54).ext hx)
  clear hx
  generalize w.heap.size = p at *
  have gN := kN.out.cell
  go_wp2_with fail
  have hsm := law_small17 n n (fun _ => True) w1 _ _ (kr.out.ext kx.out) (kr.out.ext kx.out) hsn.out hsn.out
  refine Calls.mono hsm ?_
  rintro e w2 ⟨rfl, hx⟩
  replace kx := Hd.mk (kx.out.trans hx)
  replace kN := Hd.mk (kN.out.ext hx)
  clear hx gN hsm
  have gN := kN.out.cell
  go_wp2_with fail
  have hfw := law_few17 es (fun _ => True) w2 A ac (ke.out.ext kx.out) hse.out
  refine Calls.mono hfw ?_
  rintro e w3 ⟨⟨fb, rfl, hfb⟩, hx⟩
  replace kx := Hd.mk (kx.out.trans hx)
  replace kN := Hd.mk (kN.out.ext hx)
  replace hfb := Hd.mk hfb
  clear hx gN hfw
  have gN := kN.out.cell
  cases hb : smallB n n with
  | false =>
    cases fb <;> (go_wp2_with fail; go_ret; exact ⟨rfl, kx.out⟩)
  | true =>
  cases fb with
  | false =>
    go_wp2_with fail
    go_ret
    exact ⟨rfl, kx.out⟩
  | true =>
  obtain ⟨hlen, hall⟩ := hfb.out rfl
  have hri : Hd (rightT n = true) := ⟨by unfold smallB at hb; simp only [Bool.and_eq_true] at hb; exact hb.2.2.2.2.1⟩
  have hsz : Hd (n.size ≤ 300) := ⟨by unfold smallB at hb; simp only [Bool.and_eq_true, decide_eq_true_eq] at hb; exact hb.1⟩
  have hre := Hd.mk (fun e (he : e ∈ es) (_ : e.kind ≠ 2) => (hall e he).2)
  have hs3 := Hd.mk (show sizeE es ≤ 18000 by have h1 := sizeE_le (B := 300) (fun e he => (hall e he).1); have h2 : es.length * 300 ≤ 60 * 300 := Nat.mul_le_mul_right _ hlen; omega)
  replace hall := Hd.mk hall
  replace hb := Hd.mk hb
  go_wp2_with fail
  go_loopg [8] (es.length + 1) (fun q i wr => ∃ j : Nat, j ≤ es.length ∧ Hd (q = es.length + 1 - j) ∧ i = .int .i64 j ∧ Hd (Blk wr p [.string n.name, .string n.key, .int .i64 n.kind, .int .u64 n.num, .string n.text, .slice Kn n.kids.length kn] 54) ∧ Hd (Ext w wr))
  case atStart => exact ⟨0, by omega, ⟨by omega⟩, rfl, kN, kx⟩
  case round =>
  clear kN kx gN
  obtain ⟨j, hj, hq, rfl, kN, kx⟩ := hrel
  by_cases hlt : j < es.length
  · have hx1 := List.getElem?_eq_getElem hlt
    have hmem := Hd.mk (List.getElem_mem hlt)
    generalize es[j] = e at hx1 hmem
    obtain ⟨b1, o1, ck, rfl, _, hrk, hck⟩ := ke.out.edit j e hx1
    have hrE := Hd.mk hrk
    obtain ⟨A1, a1, K3, k3, L3, l3, rfl, _⟩ := hrk
    simp only [cT, List.cons_append, List.nil_append] at hck hrE
    have kEd := Hd.mk (fun (q : Nat) u hq => Ext.cell kx.out (hck q u hq))
    have hse1 := Hd.mk (hall.out e hmem.out)
    have hrecA := Hd.mk (fun W' (hx : Ext w W') => Calls.mono (patchOne n e (fun _ => True) W' _ _ (kr.out.ext hx) (hrE.out.ext hx) hri.out (by have := hsz.out; have := hse1.out.1; omega)) (show ∀ e' w'', Ret (ChgPost (oneT n e) W') e' w'' → Ret (RChg (fun b => True ∧ b < wr.heap.size) (oneT n e) W') e' w'' from fun e' w'' ⟨v, h1, c, h2, h3, h4⟩ => ⟨v, h1, c, h2, h3.rt.mono fun b _ hb => Or.inr hb.1, h4⟩))
    have hrecB := Hd.mk (fun W' B (hx : Ext w W') (hb : Ext w B) (hx2 : Ext B W') => refOne n e (fun b => True ∧ b < B.heap.size) W' _ _ ((kr.out.mono (S' := fun b => True ∧ b < B.heap.size) fun b hb2 _ => ⟨trivial, Nat.lt_of_lt_of_le hb2 hb.size⟩).ext hx) ((hrE.out.mono (S' := fun b => True ∧ b < B.heap.size) fun b hb2 _ => ⟨trivial, Nat.lt_of_lt_of_le hb2 hb.size⟩).ext hx) (by have := hsz.out; have := hse1.out.1; omega))
    generalize oneT n e = r1 at *
    clear hck hx1
    have hlt0 : (j : Int) < (es.length : Int) := by omega
    have hSx := Hd.mk (show ∀ b, wr.heap.size ≤ b → (fun _ : Nat => True) b from fun b hb => trivial)
    go_wp2_with fail
    refine FlowJ.wp_region_flow_l (x := 9) (tx := 9) (Y := [(5, 45), (6, 39), (7, 46)]) (J := JR (fun _ => True) r1) (G := GB 9 (fun _ => True) r1) (gb_ext _ _ _) (R := Rb wr.heap.size) 10 (fun _ _ h => rb_ext h) (fun h k => rb_trans h k) (fun qq => match qq with
      | 40 => SP.eq (.agg #[.string n.name, .string n.key, .int .i64 n.kind, .int .u64 n.num, .string n.text, .slice Kn n.kids.length kn])
      | 41 => SP.eq (.slice (some ⟨b1, o1, none⟩) es.length ac)
      | 42 => SP.eq (.int .i64 (j : Nat))
      | 43 => SP.eq (.pointer (some ⟨b1, o1 + j * 14, none⟩))
      | 44 => SP.eq (.agg #[.int .i64 e.kind, .slice A1 e.way.length a1, .string e.node.name, .string e.node.key, .int .i64 e.node.kind, .int .u64 e.node.num, .string e.node.text, .slice K3 e.node.kids.length k3, .string e.old.name, .string e.old.key, .int .i64 e.old.kind, .int .u64 e.old.num, .string e.old.text, .slice L3 e.old.kids.length l3])
      | 45 => spTup (fun _ => True) r1
      | 39 => spTup (fun _ => True) r1
      | 46 => spAgg (fun _ => True) r1
      | 47 => SP.eq (.int .i64 r1.2)
      | 9 => spBoxE wr.heap.size
      | _ => SP.any) (FlowJ.over [(45, spForm r1), (39, spForm r1), (46, SP.any)] (fun qq => match qq with
      | 40 => SP.eq (.agg #[.string n.name, .string n.key, .int .i64 n.kind, .int .u64 n.num, .string n.text, .slice Kn n.kids.length kn])
      | 41 => SP.eq (.slice (some ⟨b1, o1, none⟩) es.length ac)
      | 42 => SP.eq (.int .i64 (j : Nat))
      | 43 => SP.eq (.pointer (some ⟨b1, o1 + j * 14, none⟩))
      | 44 => SP.eq (.agg #[.int .i64 e.kind, .slice A1 e.way.length a1, .string e.node.name, .string e.node.key, .int .i64 e.node.kind, .int .u64 e.node.num, .string e.node.text, .slice K3 e.node.kids.length k3, .string e.old.name, .string e.old.key, .int .i64 e.old.kind, .int .u64 e.old.num, .string e.old.text, .slice L3 e.old.kids.length l3])
      | 45 => spTup (fun _ => True) r1
      | 39 => spTup (fun _ => True) r1
      | 46 => spAgg (fun _ => True) r1
      | 47 => SP.eq (.int .i64 r1.2)
      | 9 => spBoxE wr.heap.size
      | _ => SP.any)) 11 (by kernel_rfl) 93 rfl (by kernel_rfl) (of_decide_eq_true (by kernel_rfl)) (by decide) (by kernel_rfl) ?_ ?_ ?_ ?_ ?_
    · refine ⟨by decide, rfl, by kernel_rfl, ?_, jr_mono _ _⟩
      intro q hq
      simp only [List.mem_cons, List.not_mem_nil, or_false] at hq
      rcases hq with rfl | rfl | rfl
      all_goals exact ⟨by decide, by decide, by decide, rfl, by kernel_rfl⟩
    · refine FlowJ.over_weak (fun q hq => ?_)
      simp only [List.mem_cons, List.not_mem_nil, or_false] at hq
      rcases hq with rfl | rfl | rfl
      · exact fun u v1 ⟨c, e, _⟩ => ⟨c, e⟩
      · exact fun u v1 ⟨c, e, _⟩ => ⟨c, e⟩
      · exact fun u v1 _ => trivial
    · intro q hq u' v1 v2 hR
      by_cases q1 : q = 45
      · subst q1; exact fun ⟨c, e, _⟩ => ⟨c, e⟩
      by_cases q2 : q = 39
      · subst q2; exact fun ⟨c, e, _⟩ => ⟨c, e⟩
      by_cases q3 : q = 46
      · subst q3; exact fun _ => trivial
      rw [over_ne q1, over_ne q2, over_ne q3]
      simp only [FlowJ.over]
      split
      all_goals first | exact fun h => h | exact absurd rfl q1 | exact absurd rfl q2 | exact absurd rfl q3 | exact fun ⟨D, e, h1, c, hb, hc⟩ => ⟨D, e, h1, hR.2.2 D c hb hc⟩
    · refine ⟨?_, ?_, ?_, ?_, ?_, ?_, ?_, ?_, ?_, ?_, ?_, trivial⟩
      · intro act W2 hk
        refine FlowJ.does_intro rfl (fun Kq hK => ?_)
        have e2 : act.tmps[2]?.getD undef = .pointer (some ⟨p, 0, none⟩) := hk.o 2 (by kernel_rfl)
        have g := ((kN.out).ext ((Ext.drew wr).trans (hk.early (.inr (by kernel_rfl))))).cell
        clear hk
        go_simp
        exact hK _ _ (Ext.refl _) (xt_no (by decide) (by decide) (by decide)) (fun d hd => by cases hd; first | rfl | (simp [SP.eq]; omega))
      · intro act W2 hk
        refine FlowJ.does_intro rfl (fun Kq hK => ?_)
        have e1 : act.tmps[1]?.getD undef = .slice (some ⟨b1, o1, none⟩) es.length ac := hk.o 1 (by kernel_rfl)
        clear hk
        go_simp
        exact hK _ _ (Ext.refl _) (xt_no (by decide) (by decide) (by decide)) (fun d hd => by cases hd; first | rfl | (simp [SP.eq]; omega))
      · intro act W2 hk
        refine FlowJ.does_intro rfl (fun Kq hK => ?_)
        have e8 : act.tmps[8]?.getD undef = .int .i64 (j : Nat) := hk.o 8 (by kernel_rfl)
        clear hk
        go_simp
        exact hK _ _ (Ext.refl _) (xt_no (by decide) (by decide) (by decide)) (fun d hd => by cases hd; first | rfl | (simp [SP.eq]; omega))
      · intro act W2 hk
        refine FlowJ.does_intro rfl (fun Kq hK => ?_)
        have e41 : act.tmps[41]?.getD undef = .slice (some ⟨b1, o1, none⟩) es.length ac := hk.ve 41 (by kernel_rfl) (by kernel_rfl)
        have e42 : act.tmps[42]?.getD undef = .int .i64 (j : Nat) := hk.ve 42 (by kernel_rfl) (by kernel_rfl)
        clear hk
        go_simp
        exact hK _ _ (Ext.refl _) (xt_no (by decide) (by decide) (by decide)) (fun d hd => by cases hd; first | rfl | (simp [SP.eq]; omega))
      · intro act W2 hk
        refine FlowJ.does_intro rfl (fun Kq hK => ?_)
        have e43 : act.tmps[43]?.getD undef = .pointer (some ⟨b1, o1 + j * 14, none⟩) := hk.ve 43 (by kernel_rfl) (by kernel_rfl)
        obtain ⟨g0, g1, g2, g3, g4, g5, g6, g7, g8, g9, g10, g11, g12, g13⟩ := c14C ((Ext.drew wr).trans (hk.early (.inr (by kernel_rfl)))) kEd.out
        clear hk
        go_simp
        exact hK _ _ (Ext.refl _) (xt_no (by decide) (by decide) (by decide)) (fun d hd => by cases hd; first | rfl | (simp [SP.eq]; omega))
      · intro act W2 hk
        refine FlowJ.does_intro rfl (fun Kq hK => ?_)
        have e40 : act.tmps[40]?.getD undef = .agg #[.string n.name, .string n.key, .int .i64 n.kind, .int .u64 n.num, .string n.text, .slice Kn n.kids.length kn] := hk.ve 40 (by kernel_rfl) (by kernel_rfl)
        have e44 : act.tmps[44]?.getD undef = .agg #[.int .i64 e.kind, .slice A1 e.way.length a1, .string e.node.name, .string e.node.key, .int .i64 e.node.kind, .int .u64 e.node.num, .string e.node.text, .slice K3 e.node.kids.length k3, .string e.old.name, .string e.old.key, .int .i64 e.old.kind, .int .u64 e.old.num, .string e.old.text, .slice L3 e.old.kids.length l3] := hk.ve 44 (by kernel_rfl) (by kernel_rfl)
        have hx0 := Hd.mk ((Ext.drew wr).trans (hk.early (.inr (by kernel_rfl))))
        clear hk
        go_simp
        refine Calls.mono (hrecA.out W2 (kx.out.trans hx0.out)) ?_
        rintro e W3 ⟨_, rfl, c9, rfl, hr9, hx⟩
        exact hK _ _ hx ⟨fun h => absurd h (by decide), fun h => absurd h (by decide), fun q hq h u hu _ => jr_call hSx.out hx0.out.size hr9 hu⟩ (fun d hd => by cases hd; exact ⟨c9, rfl, hr9.mono fun b _ hb => by rcases hb with hb | hb; exact hb.1; exact hSx.out b (Nat.le_trans hx0.out.size hb)⟩)
      · intro act W2 hk
        refine FlowJ.does_intro rfl (fun Kq hK => ?_)
        obtain ⟨c9, e45, hr9⟩ := (hk.ve 45 (by kernel_rfl) (by kernel_rfl) : (spTup (fun _ => True) r1).p _ _)
        clear hk
        go_simp
        refine hK _ _ (Ext.refl _) ⟨fun h => absurd h (by decide), fun h => absurd h (by decide), fun q hq h u hu hj => ?_⟩ (fun d hd => by cases hd; exact ⟨c9, rfl, hr9⟩)
        have h1 := hj (5, 45) (by simp) (by kernel_rfl)
        rw [Array.getD_eq_getD_getElem?] at h1
        rw [e45] at h1
        exact h1
      · intro act W2 hk
        refine FlowJ.does_intro rfl (fun Kq hK => ?_)
        obtain ⟨c9, e39, hr9⟩ := (hk.ve 39 (by kernel_rfl) (by kernel_rfl) : (spTup (fun _ => True) r1).p _ _)
        clear hk
        go_simp
        refine hK _ _ (Ext.refl _) ⟨fun h => absurd h (by decide), fun h => absurd h (by decide), fun q hq h u hu hj => ?_⟩ (fun d hd => by cases hd; exact ⟨c9, rfl, hr9⟩)
        have h1 := hj (6, 39) (by simp) (by kernel_rfl)
        rw [Array.getD_eq_getD_getElem?] at h1
        rw [e39] at h1
        exact jr_take h1
      · intro act W2 hk
        refine FlowJ.does_intro rfl (fun Kq hK => ?_)
        obtain ⟨c9, e39⟩ := (hk.v 39 (by kernel_rfl) : (spForm r1).p _ _)
        clear hk
        go_simp
        exact hK _ _ (Ext.refl _) (xt_no (by decide) (by decide) (by decide)) (fun d hd => by cases hd; first | rfl | (simp [SP.eq]; omega))
      · intro act W2 hk
        refine FlowJ.does_intro rfl (fun Kq hK => ?_)
        have hx0 := Hd.mk ((Ext.drew wr).trans (hk.early (.inr (by kernel_rfl))))
        clear hk
        go_simp
        refine hK _ _ (Ext.alloc _ _) ⟨fun h => absurd h (by decide), fun h q hq u hu => ?_, fun q hq h => ?_⟩ (fun d hd => by cases hd; exact ⟨_, rfl, hx0.out.size, _, Blk.new _ _ _, rfl⟩)
        · simp only [List.mem_cons, List.not_mem_nil, or_false] at hq
          rcases hq with rfl | rfl | rfl
          · exact jr_alloc (.inl hu)
          · exact jr_alloc (.inl hu)
          · exact jr_alloc (.inr hu)
        · simp only [List.mem_cons, List.not_mem_nil, or_false] at hq
          rcases hq with rfl | rfl | rfl <;> cases h
      · intro act W2 hk
        refine FlowJ.does_intro rfl (fun Kq hK => ?_)
        obtain ⟨c9, e46, hr9⟩ := (hk.ve 46 (by kernel_rfl) (by kernel_rfl) : (spAgg (fun _ => True) r1).p _ _)
        obtain ⟨D, e9, hDn, cD, hD, hc6⟩ := (hk.ve 9 (by kernel_rfl) (by kernel_rfl) : (spBoxE _).p _ _)
        have hrel := hk.rel rfl (7, 46) (by simp)
        simp only [Array.getD_eq_getD_getElem?] at hrel
        rw [e46, e9] at hrel
        have hrt := Hd.mk (hrel D c9 rfl (.inr rfl))
        clear hrel hk
        obtain ⟨Ku, ku, rfl, _⟩ := hr9.row
        simp only [cT] at hrt e46
        clear hr9
        obtain ⟨x0, x1, x2, x3, x4, x5, rfl⟩ : ∃ x0 x1 x2 x3 x4 x5, cD = [x0, x1, x2, x3, x4, x5] := by match cD, hc6 with | [a, b, c, d, e, f], _ => exact ⟨a, b, c, d, e, f, rfl⟩
        have kD := Hd.mk hD
        have eA := Hd.mk e9
        have gD := kD.out.cell
        have fD := kD.out.free
        clear hD
        go_simp
        have hu := ((((((Upd.setCell W2 ⟨D, 0, none⟩ (.string r1.1.name)).trans (Upd.setCell _ ⟨D, 1, none⟩ (.string r1.1.key))).trans (Upd.setCell _ ⟨D, 2, none⟩ (.int .i64 r1.1.kind))).trans (Upd.setCell _ ⟨D, 3, none⟩ (.int .u64 r1.1.num))).trans (Upd.setCell _ ⟨D, 4, none⟩ (.string r1.1.text))).trans (Upd.setCell _ ⟨D, 5, none⟩ (.slice Ku r1.1.kids.length ku)))
        have kDn := ((((((kD.out.setCell 0 (.string r1.1.name)).setCell 1 (.string r1.1.key)).setCell 2 (.int .i64 r1.1.kind)).setCell 3 (.int .u64 r1.1.num)).setCell 4 (.string r1.1.text)).setCell 5 (.slice Ku r1.1.kids.length ku))
        refine hK undef _ (rb_upd hDn hu ⟨_, kDn, rfl⟩) ⟨fun _ D2 hD2 => ?_, fun h => absurd h (by decide), fun q hq h => ?_⟩ (fun d hd => by cases hd)
        · have e9b := eA.out
          rw [Array.getD_eq_getD_getElem?] at hD2
          rw [e9b] at hD2
          cases hD2
          exact ⟨_, kDn, hrt.out.upd hu (fun h => h.2 rfl)⟩
        · simp only [List.mem_cons, List.not_mem_nil, or_false] at hq
          rcases hq with rfl | rfl | rfl <;> cases h
    · intro act V2 he
      have hxV2 := Hd.mk (rb_below (rb_trans (rb_ext (Ext.drew wr)) he.ext))
      obtain ⟨aP, hG1, hG2⟩ := he.post
      have hG9 := hG2 9 (by kernel_rfl)
      obtain ⟨us, hA, hF⟩ := he.out [40, 41, 42, 43, 44, 45, 39, 46, 47, 9] (by kernel_rfl)
      simp only [Flow.fillL, List.contains_cons, List.contains_nil, Nat.reduceBEq, Bool.or_false, Bool.false_or, Bool.or_true, Bool.true_or, ↓reduceIte, Nat.reduceAdd, Bool.false_eq_true] at hA
      subst hA
      have f1 : us 47 = .int .i64 r1.2 := hF 47 (by simp)
      have f2 : (spBoxE wr.heap.size).p (us 9) V2 := hF 9 (by simp)
      clear hF he
      rw [f1]
      have hG9b : aP.tmps.getD 9 undef = us 9 := hG9
      obtain ⟨D, e9, hDn, _⟩ := f2
      rw [e9] at hG9b
      obtain ⟨cD, kD0, hrt⟩ := hG1 D hG9b
      rw [e9]
      clear e9 hG1 hG2 hG9 hG9b f1
      have hDn := Hd.mk hDn
      have kD := Hd.mk kD0
      obtain ⟨Ku, ku, rfl, _⟩ := hrt.row
      have hrm := Hd.mk hrt
      simp only [cT] at hrm kD
      clear kD0 hrt
      replace kx := Hd.mk (kx.out.trans hxV2.out)
      replace kN := Hd.mk (kN.out.ext hxV2.out)
      replace kEd := Hd.mk (fun (q : Nat) u hq => Ext.cell hxV2.out (kEd.out q u hq))
      replace hrm := Hd.mk (hrm.out.mono (S' := fun _ => True) fun _ _ _ => trivial)
      have kD1 := kD
      have hrm1 := hrm
      clear kD hrm
      clear hxV2 hSx hrecA hDn
      generalize V2 = W5 at *
      refine (show wpList _ _ _ (⟨some 10, .assign (.tmp 47), _, _, _, none⟩ :: _) _ _ from ?_)
      have hSx := Hd.mk (show ∀ b, W5.heap.size ≤ b → (fun _ : Nat => True) b from fun b hb => trivial)
      go_wp2_with fail
      refine FlowJ.wp_region_flow_l (x := 9) (tx := 11) (Y := [(5, 54), (6, 48), (7, 55)]) (J := JR (fun _ => True) r1) (G := GB 11 (fun _ => True) r1) (gb_ext _ _ _) (R := Rb W5.heap.size) 10 (fun _ _ h => rb_ext h) (fun h k => rb_trans h k) (fun qq => match qq with
        | 49 => SP.eq (.agg #[.string n.name, .string n.key, .int .i64 n.kind, .int .u64 n.num, .string n.text, .slice Kn n.kids.length kn])
        | 50 => SP.eq (.slice (some ⟨b1, o1, none⟩) es.length ac)
        | 51 => SP.eq (.int .i64 (j : Nat))
        | 52 => SP.eq (.pointer (some ⟨b1, o1 + j * 14, none⟩))
        | 53 => SP.eq (.agg #[.int .i64 e.kind, .slice A1 e.way.length a1, .string e.node.name, .string e.node.key, .int .i64 e.node.kind, .int .u64 e.node.num, .string e.node.text, .slice K3 e.node.kids.length k3, .string e.old.name, .string e.old.key, .int .i64 e.old.kind, .int .u64 e.old.num, .string e.old.text, .slice L3 e.old.kids.length l3])
        | 54 => spTup (fun _ => True) r1
        | 48 => spTup (fun _ => True) r1
        | 55 => spAgg (fun _ => True) r1
        | 56 => SP.eq (.int .i64 r1.2)
        | 11 => spBoxE W5.heap.size
        | _ => SP.any) (FlowJ.over [(54, spForm r1), (48, spForm r1), (55, SP.any)] (fun qq => match qq with
        | 49 => SP.eq (.agg #[.string n.name, .string n.key, .int .i64 n.kind, .int .u64 n.num, .string n.text, .slice Kn n.kids.length kn])
        | 50 => SP.eq (.slice (some ⟨b1, o1, none⟩) es.length ac)
        | 51 => SP.eq (.int .i64 (j : Nat))
        | 52 => SP.eq (.pointer (some ⟨b1, o1 + j * 14, none⟩))
        | 53 => SP.eq (.agg #[.int .i64 e.kind, .slice A1 e.way.length a1, .string e.node.name, .string e.node.key, .int .i64 e.node.kind, .int .u64 e.node.num, .string e.node.text, .slice K3 e.node.kids.length k3, .string e.old.name, .string e.old.key, .int .i64 e.old.kind, .int .u64 e.old.num, .string e.old.text, .slice L3 e.old.kids.length l3])
        | 54 => spTup (fun _ => True) r1
        | 48 => spTup (fun _ => True) r1
        | 55 => spAgg (fun _ => True) r1
        | 56 => SP.eq (.int .i64 r1.2)
        | 11 => spBoxE W5.heap.size
        | _ => SP.any)) 11 (by kernel_rfl) 93 rfl (by kernel_rfl) (of_decide_eq_true (by kernel_rfl)) (by decide) (by kernel_rfl) ?_ ?_ ?_ ?_ ?_
      · refine ⟨by decide, rfl, by kernel_rfl, ?_, jr_mono _ _⟩
        intro q hq
        simp only [List.mem_cons, List.not_mem_nil, or_false] at hq
        rcases hq with rfl | rfl | rfl
        all_goals exact ⟨by decide, by decide, by decide, rfl, by kernel_rfl⟩
      · refine FlowJ.over_weak (fun q hq => ?_)
        simp only [List.mem_cons, List.not_mem_nil, or_false] at hq
        rcases hq with rfl | rfl | rfl
        · exact fun u v1 ⟨c, e, _⟩ => ⟨c, e⟩
        · exact fun u v1 ⟨c, e, _⟩ => ⟨c, e⟩
        · exact fun u v1 _ => trivial
      · intro q hq u' v1 v2 hR
        by_cases q1 : q = 54
        · subst q1; exact fun ⟨c, e, _⟩ => ⟨c, e⟩
        by_cases q2 : q = 48
        · subst q2; exact fun ⟨c, e, _⟩ => ⟨c, e⟩
        by_cases q3 : q = 55
        · subst q3; exact fun _ => trivial
        rw [over_ne q1, over_ne q2, over_ne q3]
        simp only [FlowJ.over]
        split
        all_goals first | exact fun h => h | exact absurd rfl q1 | exact absurd rfl q2 | exact absurd rfl q3 | exact fun ⟨De, e, h1, c, hb, hc⟩ => ⟨De, e, h1, hR.2.2 De c hb hc⟩
      · refine ⟨?_, ?_, ?_, ?_, ?_, ?_, ?_, ?_, ?_, ?_, ?_, trivial⟩
        · intro act W2 hk
          refine FlowJ.does_intro rfl (fun Kq hK => ?_)
          have e2 : act.tmps[2]?.getD undef = .pointer (some ⟨p, 0, none⟩) := hk.o 2 (by kernel_rfl)
          have g := ((kN.out).ext ((Ext.drew W5).trans (hk.early (.inr (by kernel_rfl))))).cell
          clear hk
          go_simp
          exact hK _ _ (Ext.refl _) (xt_no (by decide) (by decide) (by decide)) (fun d hd => by cases hd; first | rfl | (simp [SP.eq]; omega))
        · intro act W2 hk
          refine FlowJ.does_intro rfl (fun Kq hK => ?_)
          have e1 : act.tmps[1]?.getD undef = .slice (some ⟨b1, o1, none⟩) es.length ac := hk.o 1 (by kernel_rfl)
          clear hk
          go_simp
          exact hK _ _ (Ext.refl _) (xt_no (by decide) (by decide) (by decide)) (fun d hd => by cases hd; first | rfl | (simp [SP.eq]; omega))
        · intro act W2 hk
          refine FlowJ.does_intro rfl (fun Kq hK => ?_)
          have e8 : act.tmps[8]?.getD undef = .int .i64 (j : Nat) := hk.o 8 (by kernel_rfl)
          clear hk
          go_simp
          exact hK _ _ (Ext.refl _) (xt_no (by decide) (by decide) (by decide)) (fun d hd => by cases hd; first | rfl | (simp [SP.eq]; omega))
        · intro act W2 hk
          refine FlowJ.does_intro rfl (fun Kq hK => ?_)
          have e50 : act.tmps[50]?.getD undef = .slice (some ⟨b1, o1, none⟩) es.length ac := hk.ve 50 (by kernel_rfl) (by kernel_rfl)
          have e51 : act.tmps[51]?.getD undef = .int .i64 (j : Nat) := hk.ve 51 (by kernel_rfl) (by kernel_rfl)
          clear hk
          go_simp
          exact hK _ _ (Ext.refl _) (xt_no (by decide) (by decide) (by decide)) (fun d hd => by cases hd; first | rfl | (simp [SP.eq]; omega))
        · intro act W2 hk
          refine FlowJ.does_intro rfl (fun Kq hK => ?_)
          have e52 : act.tmps[52]?.getD undef = .pointer (some ⟨b1, o1 + j * 14, none⟩) := hk.ve 52 (by kernel_rfl) (by kernel_rfl)
          obtain ⟨g0, g1, g2, g3, g4, g5, g6, g7, g8, g9, g10, g11, g12, g13⟩ := c14C ((Ext.drew W5).trans (hk.early (.inr (by kernel_rfl)))) kEd.out
          clear hk
          go_simp
          exact hK _ _ (Ext.refl _) (xt_no (by decide) (by decide) (by decide)) (fun d hd => by cases hd; first | rfl | (simp [SP.eq]; omega))
        · intro act W2 hk
          refine FlowJ.does_intro rfl (fun Kq hK => ?_)
          have e49 : act.tmps[49]?.getD undef = .agg #[.string n.name, .string n.key, .int .i64 n.kind, .int .u64 n.num, .string n.text, .slice Kn n.kids.length kn] := hk.ve 49 (by kernel_rfl) (by kernel_rfl)
          have e53 : act.tmps[53]?.getD undef = .agg #[.int .i64 e.kind, .slice A1 e.way.length a1, .string e.node.name, .string e.node.key, .int .i64 e.node.kind, .int .u64 e.node.num, .string e.node.text, .slice K3 e.node.kids.length k3, .string e.old.name, .string e.old.key, .int .i64 e.old.kind, .int .u64 e.old.num, .string e.old.text, .slice L3 e.old.kids.length l3] := hk.ve 53 (by kernel_rfl) (by kernel_rfl)
          have hx0 := Hd.mk ((Ext.drew W5).trans (hk.early (.inr (by kernel_rfl))))
          clear hk
          go_simp
          refine Calls.mono (hrecB.out W2 W5 (kx.out.trans hx0.out) kx.out hx0.out) ?_
          rintro e W3 ⟨_, rfl, c9, rfl, hr9, hx⟩
          exact hK _ _ hx ⟨fun h => absurd h (by decide), fun h => absurd h (by decide), fun q hq h u hu _ => jr_call hSx.out hx0.out.size hr9 hu⟩ (fun d hd => by cases hd; exact ⟨c9, rfl, hr9.mono fun b _ hb => by rcases hb with hb | hb; exact hb.1; exact hSx.out b (Nat.le_trans hx0.out.size hb)⟩)
        · intro act W2 hk
          refine FlowJ.does_intro rfl (fun Kq hK => ?_)
          obtain ⟨c9, e54, hr9⟩ := (hk.ve 54 (by kernel_rfl) (by kernel_rfl) : (spTup (fun _ => True) r1).p _ _)
          clear hk
          go_simp
          refine hK _ _ (Ext.refl _) ⟨fun h => absurd h (by decide), fun h => absurd h (by decide), fun q hq h u hu hj => ?_⟩ (fun d hd => by cases hd; exact ⟨c9, rfl, hr9⟩)
          have h1 := hj (5, 54) (by simp) (by kernel_rfl)
          rw [Array.getD_eq_getD_getElem?] at h1
          rw [e54] at h1
          exact h1
        · intro act W2 hk
          refine FlowJ.does_intro rfl (fun Kq hK => ?_)
          obtain ⟨c9, e48, hr9⟩ := (hk.ve 48 (by kernel_rfl) (by kernel_rfl) : (spTup (fun _ => True) r1).p _ _)
          clear hk
          go_simp
          refine hK _ _ (Ext.refl _) ⟨fun h => absurd h (by decide), fun h => absurd h (by decide), fun q hq h u hu hj => ?_⟩ (fun d hd => by cases hd; exact ⟨c9, rfl, hr9⟩)
          have h1 := hj (6, 48) (by simp) (by kernel_rfl)
          rw [Array.getD_eq_getD_getElem?] at h1
          rw [e48] at h1
          exact jr_take h1
        · intro act W2 hk
          refine FlowJ.does_intro rfl (fun Kq hK => ?_)
          obtain ⟨c9, e48⟩ := (hk.v 48 (by kernel_rfl) : (spForm r1).p _ _)
          clear hk
          go_simp
          exact hK _ _ (Ext.refl _) (xt_no (by decide) (by decide) (by decide)) (fun d hd => by cases hd; first | rfl | (simp [SP.eq]; omega))
        · intro act W2 hk
          refine FlowJ.does_intro rfl (fun Kq hK => ?_)
          have hx0 := Hd.mk ((Ext.drew W5).trans (hk.early (.inr (by kernel_rfl))))
          clear hk
          go_simp
          refine hK _ _ (Ext.alloc _ _) ⟨fun h => absurd h (by decide), fun h q hq u hu => ?_, fun q hq h => ?_⟩ (fun d hd => by cases hd; exact ⟨_, rfl, hx0.out.size, _, Blk.new _ _ _, rfl⟩)
          · simp only [List.mem_cons, List.not_mem_nil, or_false] at hq
            rcases hq with rfl | rfl | rfl
            · exact jr_alloc (.inl hu)
            · exact jr_alloc (.inl hu)
            · exact jr_alloc (.inr hu)
          · simp only [List.mem_cons, List.not_mem_nil, or_false] at hq
            rcases hq with rfl | rfl | rfl <;> cases h
        · intro act W2 hk
          refine FlowJ.does_intro rfl (fun Kq hK => ?_)
          obtain ⟨c9, e55, hr9⟩ := (hk.ve 55 (by kernel_rfl) (by kernel_rfl) : (spAgg (fun _ => True) r1).p _ _)
          obtain ⟨De, e11, hEn, cDe, hD, hc6⟩ := (hk.ve 11 (by kernel_rfl) (by kernel_rfl) : (spBoxE _).p _ _)
          have hrel := hk.rel rfl (7, 55) (by simp)
          simp only [Array.getD_eq_getD_getElem?] at hrel
          rw [e55, e11] at hrel
          have hrt := Hd.mk (hrel De c9 rfl (.inr rfl))
          clear hrel hk
          obtain ⟨Kv, kv, rfl, _⟩ := hr9.row
          simp only [cT] at hrt e55
          clear hr9
          obtain ⟨x0, x1, x2, x3, x4, x5, rfl⟩ : ∃ x0 x1 x2 x3 x4 x5, cDe = [x0, x1, x2, x3, x4, x5] := by match cDe, hc6 with | [a, b, c, d, e, f], _ => exact ⟨a, b, c, d, e, f, rfl⟩
          have kE := Hd.mk hD
          have eA := Hd.mk e11
          have gD := kE.out.cell
          have fD := kE.out.free
          clear hD
          go_simp
          have hu := ((((((Upd.setCell W2 ⟨De, 0, none⟩ (.string r1.1.name)).trans (Upd.setCell _ ⟨De, 1, none⟩ (.string r1.1.key))).trans (Upd.setCell _ ⟨De, 2, none⟩ (.int .i64 r1.1.kind))).trans (Upd.setCell _ ⟨De, 3, none⟩ (.int .u64 r1.1.num))).trans (Upd.setCell _ ⟨De, 4, none⟩ (.string r1.1.text))).trans (Upd.setCell _ ⟨De, 5, none⟩ (.slice Kv r1.1.kids.length kv)))
          have kDn := ((((((kE.out.setCell 0 (.string r1.1.name)).setCell 1 (.string r1.1.key)).setCell 2 (.int .i64 r1.1.kind)).setCell 3 (.int .u64 r1.1.num)).setCell 4 (.string r1.1.text)).setCell 5 (.slice Kv r1.1.kids.length kv))
          refine hK undef _ (rb_upd hEn hu ⟨_, kDn, rfl⟩) ⟨fun _ D2 hD2 => ?_, fun h => absurd h (by decide), fun q hq h => ?_⟩ (fun d hd => by cases hd)
          · have e9b := eA.out
            rw [Array.getD_eq_getD_getElem?] at hD2
            rw [e9b] at hD2
            cases hD2
            exact ⟨_, kDn, hrt.out.upd hu (fun h => h.2 rfl)⟩
          · simp only [List.mem_cons, List.not_mem_nil, or_false] at hq
            rcases hq with rfl | rfl | rfl <;> cases h
      · intro act V3 he
        have hxV3 := Hd.mk (rb_below (rb_trans (rb_ext (Ext.drew W5)) he.ext))
        obtain ⟨aP, hG1, hG2⟩ := he.post
        have hG9 := hG2 11 (by kernel_rfl)
        obtain ⟨us, hA, hF⟩ := he.out [49, 50, 51, 52, 53, 54, 48, 55, 56, 11] (by kernel_rfl)
        simp only [Flow.fillL, List.contains_cons, List.contains_nil, Nat.reduceBEq, Bool.or_false, Bool.false_or, Bool.or_true, Bool.true_or, ↓reduceIte, Nat.reduceAdd, Bool.false_eq_true] at hA
        subst hA
        have f1 : us 56 = .int .i64 r1.2 := hF 56 (by simp)
        have f2 : (spBoxE W5.heap.size).p (us 11) V3 := hF 11 (by simp)
        clear hF he
        rw [f1]
        have hG9b : aP.tmps.getD 11 undef = us 11 := hG9
        obtain ⟨De, e9, hEn, _⟩ := f2
        rw [e9] at hG9b
        obtain ⟨cDe, kE0, hrt⟩ := hG1 De hG9b
        rw [e9]
        clear e9 hG1 hG2 hG9 hG9b f1
        have hEn := Hd.mk hEn
        have kE := Hd.mk kE0
        obtain ⟨Kv, kv, rfl, _⟩ := hrt.row
        have hrn := Hd.mk hrt
        simp only [cT] at hrn kE
        clear kE0 hrt
        replace kx := Hd.mk (kx.out.trans hxV3.out)
        replace kN := Hd.mk (kN.out.ext hxV3.out)
        replace kD1 := Hd.mk (kD1.out.ext hxV3.out)
        replace hrm1 := Hd.mk (hrm1.out.ext hxV3.out)
        replace hrn := Hd.mk (hrn.out.mono (S' := fun _ => True) fun _ _ _ => trivial)
        clear hxV3 hSx hrecB hEn kEd
        generalize V3 = W6 at *
        refine (show wpList _ _ _ (⟨some 12, .assign (.tmp 56), _, _, _, none⟩ :: _) _ _ from ?_)
        have gD := kD1.out.cell
        have gE := kE.out.cell
        go_wp2_with fail
        have hsame := ref_same r1.1.deep r1.1 r1.1 (fun _ => True) _ _ _ (Nat.le_refl _) hrm1.out hrn.out
        rw [sameT_rfl] at hsame
        refine Calls.mono hsame ?_
        rintro e9 w9 ⟨rfl, hx⟩
        replace kx := Hd.mk (kx.out.trans hx)
        replace kN := Hd.mk (kN.out.ext hx)
        clear hx hsame gD gE
        go_wp2_with fail
        go_roundg (es.length + 1 - (j + 1))
        case measure => have := hq.out; omega
        case rel => exact ⟨j + 1, by omega, ⟨rfl⟩, by go_num, kN, kx⟩
  · have hjl : j = es.length := by omega
    subst hjl
    have gN := kN.out.cell
    go_wp2_with fail
    have hp4 := patch_apply n es (fun _ => True) (fun _ => True) wr _ A ac (kr.out.ext kx.out) (ke.out.ext kx.out) hri.out hre.out (by have := hsz.out; have := hs3.out; omega)
    have hp5 := Hd.mk (fun W' (h : Ext wr W') => ref_apply n es (fun _ => True) (fun _ => True) W' _ A ac ((kr.out.ext kx.out).ext h) ((ke.out.ext kx.out).ext h) (by have := hsz.out; have := hs3.out; omega))
    generalize applyT n es 0 = r at *
    obtain ⟨m, rc, rn⟩ := r
    refine Calls.mono hp4 ?_
    rintro e w4 ⟨_, rfl, c4, rfl, hr4, hx⟩
    obtain ⟨K4, k4, rfl, _⟩ := hr4.row
    simp only [cT]
    have kr4 := Hd.mk hr4
    have hx4 := Hd.mk (hx.trans (Ext.alloc w4 (.cells #[.string m.name, .string m.key, .int .i64 m.kind, .int .u64 m.num, .string m.text, .slice K4 m.kids.length k4] 54)))
    replace kN := Hd.mk (kN.out.ext hx4.out)
    have k13 := Hd.mk (Blk.new w4 #[.string m.name, .string m.key, .int .i64 m.kind, .int .u64 m.num, .string m.text, .slice K4 m.kids.length k4] 54)
    clear hx hp4 hr4 gN
    have gN := kN.out.cell
    have g13 := k13.out.cell
    go_wp2_with fail
    refine Calls.mono (hp5.out _ hx4.out) ?_
    rintro e w5 ⟨_, rfl, c5, rfl, hr5, hx5⟩
    obtain ⟨K5, k5, rfl, _⟩ := hr5.row
    simp only [cT]
    have kr5 := Hd.mk hr5
    have hx6 := Hd.mk (hx5.trans (Ext.alloc w5 (.cells #[.string m.name, .string m.key, .int .i64 m.kind, .int .u64 m.num, .string m.text, .slice K5 m.kids.length k5] 54)))
    replace kx := Hd.mk ((kx.out.trans hx4.out).trans hx6.out)
    replace kr4 := Hd.mk ((kr4.out.ext (Ext.alloc w4 (.cells #[.string m.name, .string m.key, .int .i64 m.kind, .int .u64 m.num, .string m.text, .slice K4 m.kids.length k4] 54))).ext hx6.out)
    replace kr5 := Hd.mk (kr5.out.ext (Ext.alloc w5 (.cells #[.string m.name, .string m.key, .int .i64 m.kind, .int .u64 m.num, .string m.text, .slice K5 m.kids.length k5] 54)))
    have k16 := Hd.mk (Blk.new w5 #[.string m.name, .string m.key, .int .i64 m.kind, .int .u64 m.num, .string m.text, .slice K5 m.kids.length k5] 54)
    replace k13 := Hd.mk (k13.out.ext hx6.out)
    clear hx5 hp5 hr5 gN g13 hx4 hx6
    have g13 := k13.out.cell
    have g16 := k16.out.cell
    go_wp2_with fail
    have hsame := ref_same m.deep m m (fun _ => True) _ _ _ (Nat.le_refl _) (kr4.out.mono fun _ _ _ => trivial) kr5.out
    rw [sameT_rfl] at hsame
    refine Calls.mono hsame ?_
    rintro e w6 ⟨rfl, hx⟩
    go_wp2_with fail
    go_ret
    exact ⟨rfl, kx.out.trans hx⟩
end Go.Proofs.Ytgkgedjmnbjalaa
namespace Go.Proofs.Ytgkgedjmnbjalaa.patchTellsUpto
open Go.ChangeShapes Go.WideShapes Go.ChangeAt Go.RowKit
open Go.ChangeMaps (open_string shut_string)
set_option linter.unusedVariables false
set_option linter.unusedSimpArgs false
theorem own : ownKnob Try.prog.godebug = none := by kernel_rfl
theorem laidOut : laidOutB Try.prog = true := by kernel_rfl
set_option maxRecDepth 100000 in
theorem lifted (os : Os) (started : os.Started) (H : Type) (enc : TypeId × Value → H) (F : Stop.Interp) :
    ReturnsInHanded {} Try.checked os 11 .any ((Rows.OpenSpec.upto Rows.patchTellsSpec).pre6 enc Try.prog Try.f11 Rows.patchTellsUptoRow.domain false) (((Rows.OpenSpec.upto Rows.patchTellsSpec).at F).post enc Try.prog Try.f11 false true false false) := by
  refine returnsInHanded_of_cond (C := Try.checked) (s := Rows.OpenSpec.upto Rows.patchTellsSpec) (k := Rows.uptoSmall) rfl own started (by kernel_rfl) Try.func11
    (OpenSpec.witness (enc := enc) (C := Try.checked) (s := Rows.OpenSpec.upto Rows.patchTellsSpec) (k := Rows.uptoSmall) rfl false ⟨#[], #[.agg #[.string ByteArray.empty, .string ByteArray.empty, .int .i64 0, .int .u64 0, .string ByteArray.empty, .slice none 0 0], .slice none 0 0], []⟩ 8 (by kernel_rfl) (by kernel_rfl) (by kernel_rfl)
      (x := ([.agg [.lit (.string []), .lit (.string []), .agg [.lit (.int .i64 0), .lit (.int .u64 0), .lit (.string [])], .nil], .nil], [], [])) (by kernel_rfl) rfl (by kernel_rfl)) ?_
  intro W base args ds gs before hval0 hW hcnd hk _
  have hval : ∀ (j : Nat) t v, Try.f11.params[j]? = some t → args[j]? = some v → Value.okWide Try.prog W .any base t v := hval0
  have hW' := hW
  obtain ⟨p, q, hA0, hV, rfl, hfz, hnd⟩ := hW
  have hA : DataW.TrodAll enc Try.prog W 0 (fun _ => true) true Try.f11.params.toList args.toList ds p := hA0
  rw [Try.params11] at hA hval
  obtain ⟨v0, vs0, d0, ds0, p0, q0, hargs, rfl, rfl, h0, r0⟩ := trodAll_cons hA
  obtain ⟨v1, vs1, d1, ds1, p1, q1, rfl, rfl, rfl, h1, r1⟩ := trodAll_cons r0
  obtain ⟨rfl, rfl, rfl⟩ := trodAll_nil r1
  obtain rfl : args = #[v0, v1] := by cases args; simp_all
  obtain ⟨rfl, rfl⟩ := trodVars_none hV
  have hbulk := bulks.bound hk
  simp only [List.append_nil, Rows.uptoBulkAll] at hbulk
  obtain ⟨cs0, rfl, _⟩ := okWide_struct Try.underlying54 (hval 0 54 v0 rfl rfl)
  have k0 := h0
  have lt0 : ∀ x ∈ p0, x.block < W.heap.size := by obtain ⟨m, hm⟩ := k0; exact DataW.trod_lt m _ _ _ hm
  obtain ⟨t0, w0, z0⟩ : ∃ t : T, RT (fun _ => True) W t cs0.toList ∧ t.size ≤ 1048576 := by
    obtain ⟨fuel, hf⟩ := h0
    obtain ⟨t, h1, h2⟩ := node_open fuel _ _ hf (show Rows.uptoBulk d0 ≤ 1048576 by omega)
    have h2 : t.size ≤ Rows.uptoBulk d0 := h2
    exact ⟨t, h1, by omega⟩
  obtain ⟨a1, len1, cap1, rfl⟩ := okWide_slice Try.underlying57 (hval 1 57 v1 rfl rfl)
  have k1 := h1
  have lt1 : ∀ x ∈ p1, x.block < W.heap.size := by obtain ⟨m, hm⟩ := k1; exact DataW.trod_lt m _ _ _ hm
  obtain ⟨A1, c1, l1, e1, w1⟩ : ∃ (A : Option Addr) (c : Nat) (l : List E), Value.slice a1 len1 cap1 = .slice A l.length c ∧ ERow (fun _ => True) W A l c ∧ ∀ (i : Nat) e, l[i]? = some e → e.node.size ≤ 1048576 ∧ e.old.size ≤ 1048576 := by
    obtain ⟨fuel, hf⟩ := h1
    obtain ⟨A, c, l, g1, g2⟩ := edits_open hf (show Rows.uptoBulk d1 ≤ 1048576 by omega)
    exact ⟨A, c, l, by simpa [Value.cells] using g1, g2⟩
  simp only [Value.slice.injEq] at e1
  obtain ⟨rfl, rfl, rfl⟩ := e1
  clear hA0 hval0
  refine (tells17_walk t0 l1 W _ _ _ w0 w1.1 z0 w1.2).mono fun e W' ⟨he, bel⟩ => ?_
  subst he
  exact ⟨_, rfl, _, _, _, [], _, [], hW', trodAll_mk1 (shut_bool Try.underlying4 _), (trodAll_cons_mk (Below.trod laidOut (by kernel_rfl) (of_decide_eq_true (by kernel_rfl)) k0 bel lt0) (trodAll_cons_mk (Below.trod laidOut (by kernel_rfl) (of_decide_eq_true (by kernel_rfl)) k1 bel lt1) trodAll_mk0)), rfl, bel.frame _, fun h => by cases h⟩
set_option maxHeartbeats 4000000 in
theorem facts : joinedFacts Try.prog 11 Try.f11 (Rows.OpenSpec.upto Rows.patchTellsSpec).bare Rows.patchTellsUptoRow = true :=
  joined_of (by as_aux_lemma => kernel_rfl) (by as_aux_lemma => kernel_rfl) (by as_aux_lemma => kernel_rfl) (by as_aux_lemma => kernel_rfl) (by as_aux_lemma => kernel_rfl) (by as_aux_lemma => kernel_rfl) (by as_aux_lemma => kernel_rfl) (by as_aux_lemma => kernel_rfl) may_enter (by rw [lifts_final]; rfl) (by rw [make_cut]; rfl) (by as_aux_lemma => kernel_rfl) (by as_aux_lemma => kernel_rfl)
set_option maxRecDepth 100000 in
set_option maxHeartbeats 4000000 in
theorem over : Rows.patchTellsUptoRow.holds Try.pinned (Rows.OpenSpec.upto Rows.patchTellsSpec) :=
  OpenClaim.holds_of_cond 11 Try.f11 rfl rfl rfl rfl rfl rfl rfl ⟨rfl, rfl, rfl, rfl, rfl⟩ rfl rfl rfl rfl rfl (by as_aux_lemma => kernel_rfl) Try.func11
    facts
    (of_decide_eq_true (by kernel_rfl)) (by unfold Func.isWrapper; rw [if_neg (of_decide_eq_false (by kernel_rfl))]; exact ⟨rfl, rfl⟩)
    (fun os started H enc _ F => lifted os started H enc F)
theorem proved : Rows.PatchTellsUptoSaid := over
#print axioms proved
end Go.Proofs.Ytgkgedjmnbjalaa.patchTellsUpto
namespace Go.Proofs.Ytgkgedjmnbjalaa
theorem patchTells_upto : Rows.PatchTellsUptoSaid := patchTellsUpto.proved
end Go.Proofs.Ytgkgedjmnbjalaa

/- small: are trees small, and right? Steps: are two ways the same?
   Conditions: none. -/
import Derived.Test.YtgkgedjmnbjalaaTJ
set_option linter.unusedSimpArgs false
namespace Go.Proofs.Ytgkgedjmnbjalaa
open Go.RowKit Go.Sort

def smallB (a b : T) : Bool := decide (a.size ≤ 300) && (decide (b.size ≤ 300) && (decide (a.kind = 0) && (decide (b.kind = 0) && (rightT a && rightT b))))

set_option maxRecDepth 100000 in
set_option maxHeartbeats 4000000 in
theorem law_small (a b : T) (S : Nat → Prop) (w : World) (ca cb : List Value) (ha : RT S w a ca) (hb : RT S w b cb) (hsa : a.size ≤ 1048576) (hsb : b.size ≤ 1048576) :
    Calls Try.prog 38 #[.agg ca.toArray, .agg cb.toArray] w fun e w' => e = .returned (.bool (smallB a b)) ∧ Ext w w' := by
  obtain ⟨K1, c1, rfl, _⟩ := ha.row
  obtain ⟨K2, c2, rfl, _⟩ := hb.row
  have za := Hd.mk (fun W (h : Ext w W) => ref_size a.size a S W _ (Nat.le_refl _) hsa (ha.ext h))
  have zb := Hd.mk (fun W (h : Ext w W) => ref_size b.size b S W _ (Nat.le_refl _) hsb (hb.ext h))
  have ra := Hd.mk (fun W (h : Ext w W) => ref_right a.deep a S W _ (Nat.le_refl _) (ha.ext h))
  have rb := Hd.mk (fun W (h : Ext w W) => ref_right b.deep b S W _ (Nat.le_refl _) (hb.ext h))
  generalize hr : smallB a b = r
  replace hr := Hd.mk hr
  clear ha hb
  simp only [cT] at za zb ra rb ⊢
  go_enter Try.func38, Try.ntmps38
  go_wp2_with fail
  have kx := Hd.mk ((Ext.alloc w (.cells #[.string a.name, .string a.key, .int .i64 a.kind, .int .u64 a.num, .string a.text, .slice K1 a.kids.length c1] 54)).trans (Ext.alloc _ (.cells #[.string b.name, .string b.key, .int .i64 b.kind, .int .u64 b.num, .string b.text, .slice K2 b.kids.length c2] 54)))
  have kA := Hd.mk ((Blk.new w #[.string a.name, .string a.key, .int .i64 a.kind, .int .u64 a.num, .string a.text, .slice K1 a.kids.length c1] 54).alloc (.cells #[.string b.name, .string b.key, .int .i64 b.kind, .int .u64 b.num, .string b.text, .slice K2 b.kids.length c2] 54))
  have kB := Hd.mk (Blk.new2 w (.cells #[.string a.name, .string a.key, .int .i64 a.kind, .int .u64 a.num, .string a.text, .slice K1 a.kids.length c1] 54) #[.string b.name, .string b.key, .int .i64 b.kind, .int .u64 b.num, .string b.text, .slice K2 b.kids.length c2] 54)
  generalize w.heap.size = pA at *
  generalize (w.alloc _).alloc _ = W at *
  refine Calls.mono (za.out W kx.out) ?_
  rintro e w1 ⟨rfl, hx⟩
  have kx1 := Hd.mk (kx.out.trans hx)
  have kA1 := Hd.mk (kA.out.ext hx)
  have kB1 := Hd.mk (kB.out.ext hx)
  clear hx kx kA kB za
  have gA := kA1.out.cell
  have gB := kB1.out.cell
  by_cases h1 : 300 < a.size
  · have h0 : r = false := by rw [← hr.out, smallB, decide_eq_false (by omega)]; rfl
    subst h0
    go_wp2_with fail
    go_ret
    exact ⟨rfl, kx1.out⟩
  · go_wp2_with fail
    refine Calls.mono (zb.out w1 kx1.out) ?_
    rintro e w2 ⟨rfl, hx⟩
    have kx2 := Hd.mk (kx1.out.trans hx)
    have kA2 := Hd.mk (kA1.out.ext hx)
    have kB2 := Hd.mk (kB1.out.ext hx)
    clear hx kx1 kA1 kB1 zb gA gB
    have gA := kA2.out.cell
    have gB := kB2.out.cell
    by_cases h2 : 300 < b.size
    · have h0 : r = false := by rw [← hr.out, smallB, decide_eq_false (show ¬ b.size ≤ 300 by omega)]; simp
      subst h0
      go_wp2_with fail
      go_ret
      exact ⟨rfl, kx2.out⟩
    · by_cases h3 : a.kind = 0
      · by_cases h4 : b.kind = 0
        · have h0 : r = (rightT a && rightT b) := by rw [← hr.out, smallB, decide_eq_true (show a.size ≤ 300 by omega), decide_eq_true (show b.size ≤ 300 by omega), decide_eq_true h3, decide_eq_true h4]; rfl
          have h3' : (a.kind != 0) = false := by simpa using h3
          have h4' : (b.kind != 0) = false := by simpa using h4
          clear h3 h4
          replace h0 := Hd.mk h0
          go_wp2_with fail
          refine Calls.mono (ra.out w2 kx2.out) ?_
          rintro e w3 ⟨rfl, hx⟩
          have kx3 := Hd.mk (kx2.out.trans hx)
          have kA3 := Hd.mk (kA2.out.ext hx)
          have kB3 := Hd.mk (kB2.out.ext hx)
          clear hx kx2 kA2 kB2 ra gA gB
          have gA := kA3.out.cell
          have gB := kB3.out.cell
          cases hra : rightT a with
          | false =>
            have h9 : r = false := by rw [h0.out, hra]; rfl
            subst h9
            go_wp2_with fail
            go_ret
            exact ⟨rfl, kx3.out⟩
          | true =>
            have h9 : r = rightT b := by rw [h0.out, hra]; rfl
            subst h9
            go_wp2_with fail
            refine Calls.mono (rb.out w3 kx3.out) ?_
            rintro e w4 ⟨rfl, hx⟩
            have kx4 := Hd.mk (kx3.out.trans hx)
            clear hx kx3 kA3 kB3 rb gA gB
            go_wp2_with fail
            go_ret
            exact ⟨rfl, kx4.out⟩
        · have h0 : r = false := by rw [← hr.out, smallB, decide_eq_false h4]; simp
          subst h0
          have h3' : (a.kind != 0) = false := by simpa using h3
          have h4' : (b.kind != 0) = true := by simpa using h4
          clear h3 h4
          go_wp2_with fail
          go_ret
          exact ⟨rfl, kx2.out⟩
      · have h0 : r = false := by rw [← hr.out, smallB, decide_eq_false h3]; simp
        subst h0
        have h3' : (a.kind != 0) = true := by simpa using h3
        clear h3
        go_wp2_with fail
        go_ret
        exact ⟨rfl, kx2.out⟩

theorem WRow.at {S : Nat → Prop} {w : World} {A : Option Addr} {l : List Step} {c j : Nat} {x : Step} (h : WRow S w A l c) (hj : l[j]? = some x) :
    ∃ b off, A = some ⟨b, off, none⟩ ∧ S b ∧ ∀ (q : Nat) v, [Value.string x.1, .string x.2][q]? = some v → w.cell? ⟨b, off + j * 2 + q, none⟩ = some v := by
  obtain ⟨b, off, h1, h2, h3⟩ := h.row (by rintro rfl; simp at hj)
  refine ⟨b, off, h1, h2, fun q v hv => ?_⟩
  obtain ⟨e1, e2⟩ := wcells_get l j x hj
  match q, hv with
  | 0, hv => simp at hv; subst hv; have := h3 _ _ e1; rw [Nat.add_zero]; exact this
  | 1, hv => simp at hv; subst hv; have := h3 _ _ e2; rw [Nat.add_assoc]; exact this
  | q + 2, hv => simp at hv
theorem twoC {w w' : World} (hx : Ext w w') {b o : Nat} {x0 x1 : Value} (h : ∀ (j : Nat) v, [x0, x1][j]? = some v → w.cell? ⟨b, o + j, none⟩ = some v) : w'.cell? ⟨b, o, none⟩ = some x0 ∧ w'.cell? ⟨b, o + 1, none⟩ = some x1 :=
  ⟨Ext.cell hx (h 0 _ rfl), Ext.cell hx (h 1 _ rfl)⟩

set_option maxRecDepth 100000 in
set_option maxHeartbeats 4000000 in
theorem ref_steps (l m : List Step) (S : Nat → Prop) (w : World) (A1 A2 : Option Addr) (c1 c2 : Nat) (h1 : WRow S w A1 l c1) (h2 : WRow S w A2 m c2) :
    Calls Try.prog 92 #[.slice A1 l.length c1, .slice A2 m.length c2] w fun e w' => e = .returned (.bool (decide (l = m))) ∧ Ext w w' := by
  have kr1 := Hd.mk h1
  have kr2 := Hd.mk h2
  have hl1 := h1.len
  have hl2 := h2.len
  clear h1 h2
  generalize hr : decide (l = m) = r
  by_cases h6 : l.length = m.length
  · rw [h6]
    replace h6 := Hd.mk h6
    clear hl1
    replace hr := Hd.mk (show r = decide (l.drop 0 = m.drop 0) from hr.symm)
    go_enter Try.func92, Try.ntmps92
    go_wp2_with fail
    go_loopg [5] (m.length + 1) (fun q i wr => ∃ j : Nat, j ≤ m.length ∧ Hd (q = m.length + 1 - j) ∧ i = .int .i64 j ∧ Hd (r = decide (l.drop j = m.drop j)) ∧ Hd (Ext w wr))
    case atStart => exact ⟨0, by omega, ⟨by omega⟩, rfl, hr, ⟨Ext.refl _⟩⟩
    case round =>
    obtain ⟨j, hj, hq, rfl, hI, hxr⟩ := hrel
    by_cases hlt : j < m.length
    · have hlt1 : j < l.length := by have := h6.out; omega
      have hx1 := List.getElem?_eq_getElem hlt1
      have hx2 := List.getElem?_eq_getElem hlt
      have hd1 := List.drop_eq_getElem_cons hlt1
      have hd2 := List.drop_eq_getElem_cons hlt
      generalize l[j] = x at hx1 hd1
      generalize m[j] = y at hx2 hd2
      have hdrop := Hd.mk (show decide (l.drop j = m.drop j) = (decide (x = y) && decide (l.drop (j + 1) = m.drop (j + 1))) by rw [hd1, hd2]; simp)
      obtain ⟨b1, o1, rfl, _, hck⟩ := kr1.out.at hx1
      obtain ⟨b2, o2, rfl, _, hdk⟩ := kr2.out.at hx2
      have kcx := Hd.mk (fun (q : Nat) u hq => Ext.cell hxr.out (hck q u hq))
      have kcy := Hd.mk (fun (q : Nat) u hq => Ext.cell hxr.out (hdk q u hq))
      clear hck hdk hx1 hx2 hd1 hd2
      go_wp2_with fail
      by_cases hxy : x = y
      · subst hxy
        refine Flow.wp_region_flow_l (fun qq => match qq with
          | 17 => SP.eq (.slice (some ⟨b1, o1, none⟩) m.length c1)
          | 18 => SP.eq (.int .i64 (j : Nat))
          | 19 => SP.eq (.pointer (some ⟨b1, o1 + j * 2, none⟩))
          | 20 => SP.eq (.agg #[.string x.1, .string x.2])
          | 21 => SP.eq (.slice (some ⟨b2, o2, none⟩) m.length c2)
          | 22 => SP.eq (.int .i64 (j : Nat))
          | 23 => SP.eq (.pointer (some ⟨b2, o2 + j * 2, none⟩))
          | 24 => SP.eq (.agg #[.string x.1, .string x.2])
          | 25 => SP.eq (.bool false)
          | _ => SP.any) 9 (by kernel_rfl) 26 rfl (by kernel_rfl) ?_ ?_
        · skip
          refine ⟨?_, ?_, ?_, ?_, ?_, ?_, ?_, ?_, ?_, trivial⟩
          · intro act W2 hk
            refine Flow.does_intro rfl (fun Kq hK => ?_)
            have e0 : act.tmps[0]?.getD undef = .slice (some ⟨b1, o1, none⟩) m.length c1 := hk.o 0 (by kernel_rfl)
            clear hk
            go_simp
            exact hK _ _ (Ext.refl _) (fun d hd => by cases hd; rfl)
          · intro act W2 hk
            refine Flow.does_intro rfl (fun Kq hK => ?_)
            have e5 : act.tmps[5]?.getD undef = .int .i64 (j : Nat) := hk.o 5 (by kernel_rfl)
            clear hk
            go_simp
            exact hK _ _ (Ext.refl _) (fun d hd => by cases hd; rfl)
          · intro act W2 hk
            refine Flow.does_intro rfl (fun Kq hK => ?_)
            have e17 : act.tmps[17]?.getD undef = .slice (some ⟨b1, o1, none⟩) m.length c1 := hk.v 17 (by kernel_rfl)
            have e18 : act.tmps[18]?.getD undef = .int .i64 (j : Nat) := hk.v 18 (by kernel_rfl)
            clear hk
            go_simp
            exact hK _ _ (Ext.refl _) (fun d hd => by cases hd; rfl)
          · intro act W2 hk
            refine Flow.does_intro rfl (fun Kq hK => ?_)
            have e19 : act.tmps[19]?.getD undef = .pointer (some ⟨b1, o1 + j * 2, none⟩) := hk.v 19 (by kernel_rfl)
            have g0 := Ext.cell ((Ext.drew wr).trans hk.ext) ((kcx.out) 0 _ rfl)
            rw [Nat.add_zero] at g0
            have g1 := Ext.cell ((Ext.drew wr).trans hk.ext) ((kcx.out) 1 _ rfl)
            clear hk
            go_simp
            exact hK _ _ (Ext.refl _) (fun d hd => by cases hd; rfl)
          · intro act W2 hk
            refine Flow.does_intro rfl (fun Kq hK => ?_)
            have e1 : act.tmps[1]?.getD undef = .slice (some ⟨b2, o2, none⟩) m.length c2 := hk.o 1 (by kernel_rfl)
            clear hk
            go_simp
            exact hK _ _ (Ext.refl _) (fun d hd => by cases hd; rfl)
          · intro act W2 hk
            refine Flow.does_intro rfl (fun Kq hK => ?_)
            have e5 : act.tmps[5]?.getD undef = .int .i64 (j : Nat) := hk.o 5 (by kernel_rfl)
            clear hk
            go_simp
            exact hK _ _ (Ext.refl _) (fun d hd => by cases hd; rfl)
          · intro act W2 hk
            refine Flow.does_intro rfl (fun Kq hK => ?_)
            have e21 : act.tmps[21]?.getD undef = .slice (some ⟨b2, o2, none⟩) m.length c2 := hk.v 21 (by kernel_rfl)
            have e22 : act.tmps[22]?.getD undef = .int .i64 (j : Nat) := hk.v 22 (by kernel_rfl)
            clear hk
            go_simp
            exact hK _ _ (Ext.refl _) (fun d hd => by cases hd; rfl)
          · intro act W2 hk
            refine Flow.does_intro rfl (fun Kq hK => ?_)
            have e23 : act.tmps[23]?.getD undef = .pointer (some ⟨b2, o2 + j * 2, none⟩) := hk.v 23 (by kernel_rfl)
            have g0 := Ext.cell ((Ext.drew wr).trans hk.ext) ((kcy.out) 0 _ rfl)
            rw [Nat.add_zero] at g0
            have g1 := Ext.cell ((Ext.drew wr).trans hk.ext) ((kcy.out) 1 _ rfl)
            clear hk
            go_simp
            exact hK _ _ (Ext.refl _) (fun d hd => by cases hd; rfl)
          · intro act W2 hk
            refine Flow.does_intro rfl (fun Kq hK => ?_)
            have e20 : act.tmps[20]?.getD undef = .agg #[.string x.1, .string x.2] := hk.v 20 (by kernel_rfl)
            have e24 : act.tmps[24]?.getD undef = .agg #[.string x.1, .string x.2] := hk.v 24 (by kernel_rfl)
            clear hk
            go_simp
            exact hK _ _ (Ext.refl _) (fun d hd => by cases hd; rfl)
        · intro act W2 he
          have hxW2 := Hd.mk ((Ext.drew wr).trans he.ext)
          obtain ⟨us, hA, hF⟩ := he.out [17, 18, 19, 20, 21, 22, 23, 24, 25] (by kernel_rfl)
          simp only [Flow.fillL, List.contains_cons, List.contains_nil, Nat.reduceBEq, Bool.or_false, Bool.false_or, Bool.or_true, Bool.true_or, ↓reduceIte, Nat.reduceAdd, Bool.false_eq_true] at hA
          subst hA
          have f25 : us 25 = .bool false := hF 25 (by simp)
          clear hF he
          rw [f25]
          clear f25
          refine (show wpList _ _ _ [] _ _ from ?_)
          go_wp2_with fail
          go_roundg (m.length + 1 - (j + 1))
          case measure => have := hq.out; omega
          case rel => exact ⟨j + 1, by omega, ⟨rfl⟩, by go_num, ⟨by rw [hI.out, hdrop.out]; simp⟩, ⟨hxr.out.trans hxW2.out⟩⟩
      · have hr0 : r = false := by rw [hI.out, hdrop.out, decide_eq_false hxy]; rfl
        subst hr0
        have hv := Hd.mk (not2 (n := x.1) (n' := y.1) (k := x.2) (k' := y.2) (fun h => hxy (Prod.ext h.1 h.2)))
        clear hxy
        refine Flow.wp_region_flow_l (fun qq => match qq with
          | 17 => SP.eq (.slice (some ⟨b1, o1, none⟩) m.length c1)
          | 18 => SP.eq (.int .i64 (j : Nat))
          | 19 => SP.eq (.pointer (some ⟨b1, o1 + j * 2, none⟩))
          | 20 => SP.eq (.agg #[.string x.1, .string x.2])
          | 21 => SP.eq (.slice (some ⟨b2, o2, none⟩) m.length c2)
          | 22 => SP.eq (.int .i64 (j : Nat))
          | 23 => SP.eq (.pointer (some ⟨b2, o2 + j * 2, none⟩))
          | 24 => SP.eq (.agg #[.string y.1, .string y.2])
          | 25 => SP.eq (.bool true)
          | _ => SP.any) 9 (by kernel_rfl) 26 rfl (by kernel_rfl) ?_ ?_
        · skip
          refine ⟨?_, ?_, ?_, ?_, ?_, ?_, ?_, ?_, ?_, trivial⟩
          · intro act W2 hk
            refine Flow.does_intro rfl (fun Kq hK => ?_)
            have e0 : act.tmps[0]?.getD undef = .slice (some ⟨b1, o1, none⟩) m.length c1 := hk.o 0 (by kernel_rfl)
            clear hk
            go_simp
            exact hK _ _ (Ext.refl _) (fun d hd => by cases hd; rfl)
          · intro act W2 hk
            refine Flow.does_intro rfl (fun Kq hK => ?_)
            have e5 : act.tmps[5]?.getD undef = .int .i64 (j : Nat) := hk.o 5 (by kernel_rfl)
            clear hk
            go_simp
            exact hK _ _ (Ext.refl _) (fun d hd => by cases hd; rfl)
          · intro act W2 hk
            refine Flow.does_intro rfl (fun Kq hK => ?_)
            have e17 : act.tmps[17]?.getD undef = .slice (some ⟨b1, o1, none⟩) m.length c1 := hk.v 17 (by kernel_rfl)
            have e18 : act.tmps[18]?.getD undef = .int .i64 (j : Nat) := hk.v 18 (by kernel_rfl)
            clear hk
            go_simp
            exact hK _ _ (Ext.refl _) (fun d hd => by cases hd; rfl)
          · intro act W2 hk
            refine Flow.does_intro rfl (fun Kq hK => ?_)
            have e19 : act.tmps[19]?.getD undef = .pointer (some ⟨b1, o1 + j * 2, none⟩) := hk.v 19 (by kernel_rfl)
            have g0 := Ext.cell ((Ext.drew wr).trans hk.ext) ((kcx.out) 0 _ rfl)
            rw [Nat.add_zero] at g0
            have g1 := Ext.cell ((Ext.drew wr).trans hk.ext) ((kcx.out) 1 _ rfl)
            clear hk
            go_simp
            exact hK _ _ (Ext.refl _) (fun d hd => by cases hd; rfl)
          · intro act W2 hk
            refine Flow.does_intro rfl (fun Kq hK => ?_)
            have e1 : act.tmps[1]?.getD undef = .slice (some ⟨b2, o2, none⟩) m.length c2 := hk.o 1 (by kernel_rfl)
            clear hk
            go_simp
            exact hK _ _ (Ext.refl _) (fun d hd => by cases hd; rfl)
          · intro act W2 hk
            refine Flow.does_intro rfl (fun Kq hK => ?_)
            have e5 : act.tmps[5]?.getD undef = .int .i64 (j : Nat) := hk.o 5 (by kernel_rfl)
            clear hk
            go_simp
            exact hK _ _ (Ext.refl _) (fun d hd => by cases hd; rfl)
          · intro act W2 hk
            refine Flow.does_intro rfl (fun Kq hK => ?_)
            have e21 : act.tmps[21]?.getD undef = .slice (some ⟨b2, o2, none⟩) m.length c2 := hk.v 21 (by kernel_rfl)
            have e22 : act.tmps[22]?.getD undef = .int .i64 (j : Nat) := hk.v 22 (by kernel_rfl)
            clear hk
            go_simp
            exact hK _ _ (Ext.refl _) (fun d hd => by cases hd; rfl)
          · intro act W2 hk
            refine Flow.does_intro rfl (fun Kq hK => ?_)
            have e23 : act.tmps[23]?.getD undef = .pointer (some ⟨b2, o2 + j * 2, none⟩) := hk.v 23 (by kernel_rfl)
            have g0 := Ext.cell ((Ext.drew wr).trans hk.ext) ((kcy.out) 0 _ rfl)
            rw [Nat.add_zero] at g0
            have g1 := Ext.cell ((Ext.drew wr).trans hk.ext) ((kcy.out) 1 _ rfl)
            clear hk
            go_simp
            exact hK _ _ (Ext.refl _) (fun d hd => by cases hd; rfl)
          · intro act W2 hk
            refine Flow.does_intro rfl (fun Kq hK => ?_)
            have e20 : act.tmps[20]?.getD undef = .agg #[.string x.1, .string x.2] := hk.v 20 (by kernel_rfl)
            have e24 : act.tmps[24]?.getD undef = .agg #[.string y.1, .string y.2] := hk.v 24 (by kernel_rfl)
            clear hk
            skip
            rcases hv.out with q | ⟨q1, q⟩
            all_goals go_simp
            all_goals exact hK _ _ (Ext.refl _) (fun d hd => by cases hd; rfl)
        · intro act W2 he
          have hxW2 := Hd.mk ((Ext.drew wr).trans he.ext)
          obtain ⟨us, hA, hF⟩ := he.out [17, 18, 19, 20, 21, 22, 23, 24, 25] (by kernel_rfl)
          simp only [Flow.fillL, List.contains_cons, List.contains_nil, Nat.reduceBEq, Bool.or_false, Bool.false_or, Bool.or_true, Bool.true_or, ↓reduceIte, Nat.reduceAdd, Bool.false_eq_true] at hA
          subst hA
          have f25 : us 25 = .bool true := hF 25 (by simp)
          clear hF he
          rw [f25]
          clear f25
          refine (show wpList _ _ _ [] _ _ from ?_)
          go_wp2_with fail
          go_ret
          exact ⟨rfl, hxr.out.trans hxW2.out⟩
    · have hjl : j = m.length := by omega
      subst hjl
      have hr0 : r = true := by rw [hI.out, ← h6.out, List.drop_length, h6.out, List.drop_length]; rfl
      subst hr0
      go_wp2_with fail
      go_ret
      exact ⟨rfl, hxr.out⟩
  · have hr0 : r = false := by rw [← hr]; exact decide_eq_false (fun h => h6 (by rw [h]))
    subst hr0
    have h6' : ((l.length : Int) != (m.length : Int)) = true := by rw [bne_iff_ne]; omega
    clear hr
    go_enter Try.func92, Try.ntmps92
    go_wp2_with fail
    go_ret
    exact ⟨rfl, Ext.refl _⟩
end Go.Proofs.Ytgkgedjmnbjalaa

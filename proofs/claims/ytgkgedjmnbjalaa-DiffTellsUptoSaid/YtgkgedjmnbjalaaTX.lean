/- DiffTells: the walk, but for awake.
   Conditions: none. -/
import Derived.Test.YtgkgedjmnbjalaaTQ
import Derived.Test.YtgkgedjmnbjalaaTS
set_option linter.unusedSimpArgs false
namespace Go.Proofs.Ytgkgedjmnbjalaa
open Go.RowKit Go.Sort

set_option maxRecDepth 100000 in
set_option maxHeartbeats 4000000 in
theorem ref_edits {N : Nat} {S : Nat → Prop} {w : World} {a b : T} {ca cb : List Value} (hd : a.deep ≤ N) (ha : RT S w a ca) (hb : RT S w b cb) (hdb : a.deep ≤ 1000000) (hes : a.size + b.size ≤ 1000000) :
    Calls Try.prog 41 #[.agg ca.toArray, .agg cb.toArray] w (Ret (EdPost (edits N a b []) w)) := by
  obtain ⟨K1, c1, rfl, _⟩ := ha.row
  obtain ⟨K2, c2, rfl, _⟩ := hb.row
  have hcall := Hd.mk (fun W (h : Ext w W) => ref_edits_at N S W [] none 0 a b _ _ hd (WRow.nil _ _ _ _ (fun _ => rfl)) (ha.ext h) (hb.ext h) (by simpa using hdb) hes)
  have hlen := Hd.mk (Nat.le_trans (edits_len N a b []) (Nat.le_trans hes (by decide : 1000000 ≤ 1048576)))
  clear ha hb
  simp only [cT, List.length_nil] at hcall ⊢
  go_enter Try.func41, Try.ntmps41
  go_wp2_with fail
  have kx := Hd.mk ((Ext.alloc w (.cells #[.string a.name, .string a.key, .int .i64 a.kind, .int .u64 a.num, .string a.text, .slice K1 a.kids.length c1] 54)).trans (Ext.alloc _ (.cells #[.string b.name, .string b.key, .int .i64 b.kind, .int .u64 b.num, .string b.text, .slice K2 b.kids.length c2] 54)))
  refine Calls.mono (hcall.out _ kx.out) ?_
  rintro e w1 ⟨v1, rfl, css, ho, hx⟩
  obtain ⟨A, c, rfl, hrow⟩ := ho.row hlen.out
  have hrow := Hd.mk hrow
  have hx := Hd.mk (kx.out.trans hx)
  clear ho hcall
  go_wp2_with fail
  go_ret
  exact ⟨_, rfl, A, c, rfl, hrow.out, hx.out⟩

/-- A row of edits has been told. -/
def spE (es : List E) : SP := ⟨fun v w => ∃ A c, v = .slice A es.length c ∧ ERow (fun _ => True) w A es c, fun _ _ _ h ⟨A, c, e, hr⟩ => ⟨A, c, e, hr.ext h⟩⟩

set_option maxRecDepth 100000 in
set_option maxHeartbeats 4000000 in
theorem tells16_walk (haw : ∀ w, Calls Try.prog 37 #[] w fun e w' => e = .returned (.bool true) ∧ Ext w w') (a b : T) (S : Nat → Prop) (w : World) (ca cb : List Value) (ha : RT S w a ca) (hb : RT S w b cb) (hsa : a.size ≤ 1048576) (hsb : b.size ≤ 1048576) :
    Calls Try.prog 7 #[.agg ca.toArray, .agg cb.toArray] w fun e w' => e = .returned (.bool true) ∧ Ext w w' := by
  obtain ⟨K1, c1, rfl, _⟩ := ha.row
  obtain ⟨K2, c2, rfl, _⟩ := hb.row
  have hsm := Hd.mk (fun W (h : Ext w W) => law_small a b S W _ _ (ha.ext h) (hb.ext h) hsa hsb)
  have hde := Hd.mk (fun (hz : a.size ≤ 300 ∧ b.size ≤ 300) W (h : Ext w W) => diff_edits (N := a.deep) (Nat.le_refl _) (ha.ext h) (hb.ext h) (by have := a.deep_le; omega) (by omega))
  have hre := Hd.mk (fun (hz : a.size ≤ 300 ∧ b.size ≤ 300) W (h : Ext w W) => ref_edits (N := a.deep) (Nat.le_refl _) (ha.ext h) (hb.ext h) (by have := a.deep_le; omega) (by omega))
  clear ha hb
  simp only [cT] at hsm hde hre ⊢
  generalize edits a.deep a b [] = es at *
  go_enter Try.func7, Try.ntmps7
  go_wp2_with fail
  have kx := Hd.mk ((Ext.alloc w (.cells #[.string a.name, .string a.key, .int .i64 a.kind, .int .u64 a.num, .string a.text, .slice K1 a.kids.length c1] 54)).trans (Ext.alloc _ (.cells #[.string b.name, .string b.key, .int .i64 b.kind, .int .u64 b.num, .string b.text, .slice K2 b.kids.length c2] 54)))
  have kA := Hd.mk ((Blk.new w #[.string a.name, .string a.key, .int .i64 a.kind, .int .u64 a.num, .string a.text, .slice K1 a.kids.length c1] 54).alloc (.cells #[.string b.name, .string b.key, .int .i64 b.kind, .int .u64 b.num, .string b.text, .slice K2 b.kids.length c2] 54))
  have kB := Hd.mk (Blk.new2 w (.cells #[.string a.name, .string a.key, .int .i64 a.kind, .int .u64 a.num, .string a.text, .slice K1 a.kids.length c1] 54) #[.string b.name, .string b.key, .int .i64 b.kind, .int .u64 b.num, .string b.text, .slice K2 b.kids.length c2] 54)
  generalize w.heap.size = pA at *
  generalize (w.alloc _).alloc _ = W at *
  refine Calls.mono (haw _) ?_
  rintro e w1 ⟨rfl, hx⟩
  have kx1 := Hd.mk (kx.out.trans hx)
  have kA1 := Hd.mk (kA.out.ext hx)
  have kB1 := Hd.mk (kB.out.ext hx)
  clear hx kx kA kB haw
  have gA := kA1.out.cell
  have gB := kB1.out.cell
  go_wp2_with fail
  refine Calls.mono (hsm.out w1 kx1.out) ?_
  rintro e w2 ⟨rfl, hx⟩
  have kx2 := Hd.mk (kx1.out.trans hx)
  have kA2 := Hd.mk (kA1.out.ext hx)
  have kB2 := Hd.mk (kB1.out.ext hx)
  clear hx kx1 kA1 kB1 hsm gA gB
  cases hs : smallB a b with
  | false =>
    go_wp2_with fail
    refine Flow.wp_region_flow_l (fun qq => match qq with
      | 13 => SP.eq (.bool false)
      | 14 => SP.eq (.bool true)
      | 15 => SP.eq (.bool true)
      | 16 => SP.eq (undef)
      | 17 => SP.eq (undef)
      | 18 => SP.eq (undef)
      | 19 => SP.eq (undef)
      | 20 => SP.eq (undef)
      | 21 => SP.eq (undef)
      | 22 => SP.eq (undef)
      | 23 => SP.eq (.bool true)
      | 4 => SP.eq (.bool true)
      | _ => SP.any) 12 (by kernel_rfl) 24 rfl (by kernel_rfl) ?_ ?_
    · skip
      refine ⟨?_, ?_, ?_, ?_, ?_, ?_, ?_, ?_, ?_, ?_, ?_, ?_, trivial⟩
      · intro act W2 hk
        refine Flow.does_intro rfl (fun Kq hK => ?_)
        have e6 : act.tmps[6]?.getD undef = .bool false := hk.o 6 (by kernel_rfl)
        clear hk
        go_simp
        exact hK _ _ (Ext.refl _) (fun d hd => by cases hd; rfl)
      · intro act W2 hk
        refine Flow.does_intro rfl (fun Kq hK => ?_)
        have e13 : act.tmps[13]?.getD undef = .bool false := hk.v 13 (by kernel_rfl)
        clear hk
        go_simp
        exact hK _ _ (Ext.refl _) (fun d hd => by cases hd; rfl)
      · intro act W2 hk
        refine Flow.does_intro rfl (fun Kq hK => ?_)
        have e14 : act.tmps[14]?.getD undef = .bool true := hk.v 14 (by kernel_rfl)
        clear hk
        go_simp
        exact hK _ _ (Ext.refl _) (fun d hd => by cases hd; rfl)
      · intro act W2 hk
        have eg : act.tmps[15]?.getD undef = .bool true := hk.v 15 (by kernel_rfl)
        exact Flow.does_skip (wanted_no rfl rfl eg) (fun d hd => by cases hd; rfl)
      · intro act W2 hk
        have eg : act.tmps[15]?.getD undef = .bool true := hk.v 15 (by kernel_rfl)
        exact Flow.does_skip (wanted_no rfl rfl eg) (fun d hd => by cases hd; rfl)
      · intro act W2 hk
        have eg : act.tmps[15]?.getD undef = .bool true := hk.v 15 (by kernel_rfl)
        exact Flow.does_skip (wanted_no rfl rfl eg) (fun d hd => by cases hd; rfl)
      · intro act W2 hk
        have eg : act.tmps[15]?.getD undef = .bool true := hk.v 15 (by kernel_rfl)
        exact Flow.does_skip (wanted_no rfl rfl eg) (fun d hd => by cases hd; rfl)
      · intro act W2 hk
        have eg : act.tmps[15]?.getD undef = .bool true := hk.v 15 (by kernel_rfl)
        exact Flow.does_skip (wanted_no rfl rfl eg) (fun d hd => by cases hd; rfl)
      · intro act W2 hk
        have eg : act.tmps[15]?.getD undef = .bool true := hk.v 15 (by kernel_rfl)
        exact Flow.does_skip (wanted_no rfl rfl eg) (fun d hd => by cases hd; rfl)
      · intro act W2 hk
        have eg : act.tmps[15]?.getD undef = .bool true := hk.v 15 (by kernel_rfl)
        exact Flow.does_skip (wanted_no rfl rfl eg) (fun d hd => by cases hd; rfl)
      · intro act W2 hk
        refine Flow.does_intro rfl (fun Kq hK => ?_)
        have e15 : act.tmps[15]?.getD undef = .bool true := hk.v 15 (by kernel_rfl)
        clear hk
        go_simp
        exact hK _ _ (Ext.refl _) (fun d hd => by cases hd; rfl)
      · intro act W2 hk
        refine Flow.does_intro rfl (fun Kq hK => ?_)
        have e23 : act.tmps[23]?.getD undef = .bool true := hk.v 23 (by kernel_rfl)
        clear hk
        go_simp
        exact hK _ _ (Ext.refl _) (fun d hd => by cases hd; rfl)
    · intro act W2 he
      have hxW2 := Hd.mk ((Ext.drew w2).trans he.ext)
      obtain ⟨us, hA, hF⟩ := he.out [13, 14, 15, 16, 17, 18, 19, 20, 21, 22, 23, 4] (by kernel_rfl)
      simp only [Flow.fillL, List.contains_cons, List.contains_nil, Nat.reduceBEq, Bool.or_false, Bool.false_or, Bool.or_true, Bool.true_or, ↓reduceIte, Nat.reduceAdd, Bool.false_eq_true] at hA
      subst hA
      have f4 : us 4 = .bool true := hF 4 (by simp)
      clear hF he
      rw [f4]
      clear f4
      refine (show wpList _ _ _ [] _ _ from ?_)
      go_wp2_with fail
      go_ret
      exact ⟨rfl, kx2.out.trans hxW2.out⟩
  | true =>
    have hz := Hd.mk (show a.size ≤ 300 ∧ b.size ≤ 300 by
      simp only [smallB, Bool.and_eq_true, decide_eq_true_eq] at hs
      exact ⟨hs.1, hs.2.1⟩)
    go_wp2_with fail
    refine Flow.wp_region_flow_l (fun qq => match qq with
      | 13 => SP.eq (.bool true)
      | 14 => SP.eq (.bool false)
      | 15 => SP.eq (.bool false)
      | 16 => SP.eq (.agg #[.string a.name, .string a.key, .int .i64 a.kind, .int .u64 a.num, .string a.text, .slice K1 a.kids.length c1])
      | 17 => SP.eq (.agg #[.string b.name, .string b.key, .int .i64 b.kind, .int .u64 b.num, .string b.text, .slice K2 b.kids.length c2])
      | 18 => spE es
      | 19 => SP.eq (.agg #[.string a.name, .string a.key, .int .i64 a.kind, .int .u64 a.num, .string a.text, .slice K1 a.kids.length c1])
      | 20 => SP.eq (.agg #[.string b.name, .string b.key, .int .i64 b.kind, .int .u64 b.num, .string b.text, .slice K2 b.kids.length c2])
      | 21 => spE es
      | 22 => SP.eq (.bool true)
      | 23 => SP.eq (.bool true)
      | 4 => SP.eq (.bool true)
      | _ => SP.any) 12 (by kernel_rfl) 24 rfl (by kernel_rfl) ?_ ?_
    · skip
      refine ⟨?_, ?_, ?_, ?_, ?_, ?_, ?_, ?_, ?_, ?_, ?_, ?_, trivial⟩
      · intro act W2 hk
        refine Flow.does_intro rfl (fun Kq hK => ?_)
        have e6 : act.tmps[6]?.getD undef = .bool true := hk.o 6 (by kernel_rfl)
        clear hk
        go_simp
        exact hK _ _ (Ext.refl _) (fun d hd => by cases hd; rfl)
      · intro act W2 hk
        refine Flow.does_intro rfl (fun Kq hK => ?_)
        have e13 : act.tmps[13]?.getD undef = .bool true := hk.v 13 (by kernel_rfl)
        clear hk
        go_simp
        exact hK _ _ (Ext.refl _) (fun d hd => by cases hd; rfl)
      · intro act W2 hk
        refine Flow.does_intro rfl (fun Kq hK => ?_)
        have e14 : act.tmps[14]?.getD undef = .bool false := hk.v 14 (by kernel_rfl)
        clear hk
        go_simp
        exact hK _ _ (Ext.refl _) (fun d hd => by cases hd; rfl)
      · intro act W2 hk
        have eg : act.tmps[15]?.getD undef = .bool false := hk.v 15 (by kernel_rfl)
        refine Flow.does_intro (wanted_yes rfl rfl eg) (fun Kq hK => ?_)
        clear eg
        have e2 : act.tmps[2]?.getD undef = .pointer (some ⟨pA, 0, none⟩) := hk.o 2 (by kernel_rfl)
        have g := ((kA2.out).ext ((Ext.drew w2).trans hk.ext)).cell
        clear hk
        go_simp
        exact hK _ _ (Ext.refl _) (fun d hd => by cases hd; rfl)
      · intro act W2 hk
        have eg : act.tmps[15]?.getD undef = .bool false := hk.v 15 (by kernel_rfl)
        refine Flow.does_intro (wanted_yes rfl rfl eg) (fun Kq hK => ?_)
        clear eg
        have e3 : act.tmps[3]?.getD undef = .pointer (some ⟨(pA + 1), 0, none⟩) := hk.o 3 (by kernel_rfl)
        have g := ((kB2.out).ext ((Ext.drew w2).trans hk.ext)).cell
        clear hk
        go_simp
        exact hK _ _ (Ext.refl _) (fun d hd => by cases hd; rfl)
      · intro act W2 hk
        have eg : act.tmps[15]?.getD undef = .bool false := hk.v 15 (by kernel_rfl)
        refine Flow.does_intro (wanted_yes rfl rfl eg) (fun Kq hK => ?_)
        clear eg
        have e16 : act.tmps[16]?.getD undef = .agg #[.string a.name, .string a.key, .int .i64 a.kind, .int .u64 a.num, .string a.text, .slice K1 a.kids.length c1] := hk.v 16 (by kernel_rfl)
        have e17 : act.tmps[17]?.getD undef = .agg #[.string b.name, .string b.key, .int .i64 b.kind, .int .u64 b.num, .string b.text, .slice K2 b.kids.length c2] := hk.v 17 (by kernel_rfl)
        have hx0 := Hd.mk ((Ext.drew w2).trans hk.ext)
        clear hk
        go_simp
        refine Calls.mono (hde.out hz.out _ (kx2.out.trans hx0.out)) ?_
        rintro e W3 ⟨_, rfl, A', c', rfl, hr', hx⟩
        exact hK _ _ hx (fun d hd => by cases hd; exact ⟨A', c', rfl, hr'⟩)
      · intro act W2 hk
        have eg : act.tmps[15]?.getD undef = .bool false := hk.v 15 (by kernel_rfl)
        refine Flow.does_intro (wanted_yes rfl rfl eg) (fun Kq hK => ?_)
        clear eg
        have e2 : act.tmps[2]?.getD undef = .pointer (some ⟨pA, 0, none⟩) := hk.o 2 (by kernel_rfl)
        have g := ((kA2.out).ext ((Ext.drew w2).trans hk.ext)).cell
        clear hk
        go_simp
        exact hK _ _ (Ext.refl _) (fun d hd => by cases hd; rfl)
      · intro act W2 hk
        have eg : act.tmps[15]?.getD undef = .bool false := hk.v 15 (by kernel_rfl)
        refine Flow.does_intro (wanted_yes rfl rfl eg) (fun Kq hK => ?_)
        clear eg
        have e3 : act.tmps[3]?.getD undef = .pointer (some ⟨(pA + 1), 0, none⟩) := hk.o 3 (by kernel_rfl)
        have g := ((kB2.out).ext ((Ext.drew w2).trans hk.ext)).cell
        clear hk
        go_simp
        exact hK _ _ (Ext.refl _) (fun d hd => by cases hd; rfl)
      · intro act W2 hk
        have eg : act.tmps[15]?.getD undef = .bool false := hk.v 15 (by kernel_rfl)
        refine Flow.does_intro (wanted_yes rfl rfl eg) (fun Kq hK => ?_)
        clear eg
        have e19 : act.tmps[19]?.getD undef = .agg #[.string a.name, .string a.key, .int .i64 a.kind, .int .u64 a.num, .string a.text, .slice K1 a.kids.length c1] := hk.v 19 (by kernel_rfl)
        have e20 : act.tmps[20]?.getD undef = .agg #[.string b.name, .string b.key, .int .i64 b.kind, .int .u64 b.num, .string b.text, .slice K2 b.kids.length c2] := hk.v 20 (by kernel_rfl)
        have hx0 := Hd.mk ((Ext.drew w2).trans hk.ext)
        clear hk
        go_simp
        refine Calls.mono (hre.out hz.out _ (kx2.out.trans hx0.out)) ?_
        rintro e W3 ⟨_, rfl, A', c', rfl, hr', hx⟩
        exact hK _ _ hx (fun d hd => by cases hd; exact ⟨A', c', rfl, hr'⟩)
      · intro act W2 hk
        have eg : act.tmps[15]?.getD undef = .bool false := hk.v 15 (by kernel_rfl)
        refine Flow.does_intro (wanted_yes rfl rfl eg) (fun Kq hK => ?_)
        clear eg
        obtain ⟨A', c', e18, h18⟩ := (hk.v 18 (by kernel_rfl) : (spE _).p _ _)
        obtain ⟨A9, c9, e21, h21⟩ := (hk.v 21 (by kernel_rfl) : (spE _).p _ _)
        have hsame := Hd.mk (ref_sameE es W2 A' A9 c' c9 h18 h21)
        clear h18 h21
        clear hk
        go_simp
        refine Calls.mono (hsame.out) ?_
        rintro e W3 ⟨rfl, hx⟩
        exact hK _ _ hx (fun d hd => by cases hd; rfl)
      · intro act W2 hk
        refine Flow.does_intro rfl (fun Kq hK => ?_)
        have e15 : act.tmps[15]?.getD undef = .bool false := hk.v 15 (by kernel_rfl)
        have e22 : act.tmps[22]?.getD undef = .bool true := hk.v 22 (by kernel_rfl)
        clear hk
        go_simp
        exact hK _ _ (Ext.refl _) (fun d hd => by cases hd; rfl)
      · intro act W2 hk
        refine Flow.does_intro rfl (fun Kq hK => ?_)
        have e23 : act.tmps[23]?.getD undef = .bool true := hk.v 23 (by kernel_rfl)
        clear hk
        go_simp
        exact hK _ _ (Ext.refl _) (fun d hd => by cases hd; rfl)
    · intro act W2 he
      have hxW2 := Hd.mk ((Ext.drew w2).trans he.ext)
      obtain ⟨us, hA, hF⟩ := he.out [13, 14, 15, 16, 17, 18, 19, 20, 21, 22, 23, 4] (by kernel_rfl)
      simp only [Flow.fillL, List.contains_cons, List.contains_nil, Nat.reduceBEq, Bool.or_false, Bool.false_or, Bool.or_true, Bool.true_or, ↓reduceIte, Nat.reduceAdd, Bool.false_eq_true] at hA
      subst hA
      have f4 : us 4 = .bool true := hF 4 (by simp)
      clear hF he
      rw [f4]
      clear f4
      refine (show wpList _ _ _ [] _ _ from ?_)
      go_wp2_with fail
      go_ret
      exact ⟨rfl, kx2.out.trans hxW2.out⟩
end Go.Proofs.Ytgkgedjmnbjalaa

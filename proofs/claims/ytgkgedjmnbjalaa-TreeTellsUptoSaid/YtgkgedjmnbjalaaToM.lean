/- Texts that the law needs, joined.
   Conditions: none. -/
import Derived.Test.YtgkgedjmnbjalaaToL
import Derived.Test.YtgkgedjmnbjalaaToJ
import Derived.Test.YtgkgedjmnbjalaaToK
import Derived.Test.YtgkgedjmnbjalaaToH
import Derived.Test.YtgkgedjmnbjalaaToI
set_option linter.unusedSimpArgs false
set_option linter.unusedVariables false
namespace Go.Proofs.Ytgkgedjmnbjalaa
open Go.RowKit Go.Sort
theorem sort_tt {t : T} {w : World} : ∀ e w', Ret (SortPost t w) e w' → ∃ c : List Value, e = .returned (.agg c.toArray) ∧ RT (fun _ => True) w' (sortT t) c ∧ Ext w w' := fun e w' ⟨v, h1, c, h2, h3, h4⟩ => ⟨c, by rw [h1, h2], h3.mono fun _ _ _ => trivial, h4⟩
set_option maxRecDepth 100000 in
set_option maxHeartbeats 8000000 in
theorem tells09_walk (a b : T) (w : World) (ca cb : List Value) (ha : RT (fun _ => True) w a ca) (hb : RT (fun _ => True) w b cb) (hsa : a.size ≤ 1048576) (hsb : b.size ≤ 1048576) :
    Calls Try.prog 15 #[.agg ca.toArray, .agg cb.toArray] w fun e w' => e = .returned (.bool true) ∧ Ext w w' := by
  obtain ⟨Ka, ka, rfl, _⟩ := ha.row
  obtain ⟨Kb, kb, rfl, _⟩ := hb.row
  have ra := Hd.mk ha
  have rb := Hd.mk hb
  replace hsa := Hd.mk hsa
  replace hsb := Hd.mk hsb
  clear ha hb
  simp only [cT] at ra rb ⊢
  go_enter Try.func15, Try.ntmps15
  go_wp2_with fail
  have hxA := (Ext.alloc w (.cells #[.string a.name, .string a.key, .int .i64 a.kind, .int .u64 a.num, .string a.text, .slice Ka a.kids.length ka] 54)).trans (Ext.alloc _ (.cells #[.string b.name, .string b.key, .int .i64 b.kind, .int .u64 b.num, .string b.text, .slice Kb b.kids.length kb] 54))
  have kx := Hd.mk hxA
  have kA := Hd.mk ((Blk.new w #[.string a.name, .string a.key, .int .i64 a.kind, .int .u64 a.num, .string a.text, .slice Ka a.kids.length ka] 54).alloc (.cells #[.string b.name, .string b.key, .int .i64 b.kind, .int .u64 b.num, .string b.text, .slice Kb b.kids.length kb] 54))
  have kB := Hd.mk (Blk.new2 w (.cells #[.string a.name, .string a.key, .int .i64 a.kind, .int .u64 a.num, .string a.text, .slice Ka a.kids.length ka] 54) #[.string b.name, .string b.key, .int .i64 b.kind, .int .u64 b.num, .string b.text, .slice Kb b.kids.length kb] 54)
  replace ra := Hd.mk (ra.out.ext hxA)
  replace rb := Hd.mk (rb.out.ext hxA)
  clear hxA
  generalize w.heap.size = pA at *
  generalize (w.alloc _).alloc _ = W at *
  refine Calls.mono (awake09 _) ?_
  rintro e w1 ⟨rfl, hx⟩
  replace kx := Hd.mk (kx.out.trans hx)
  replace kA := Hd.mk (kA.out.ext hx)
  replace kB := Hd.mk (kB.out.ext hx)
  replace ra := Hd.mk (ra.out.ext hx)
  replace rb := Hd.mk (rb.out.ext hx)
  clear hx
  have gkA := kA.out.cell
  have gkB := kB.out.cell
  go_wp2_with fail
  clear gkA gkB
  refine Calls.mono (law_small09 a (fun _ => True) _ _ hsa.out ra.out) ?_
  rintro e w2 ⟨rfl, hx⟩
  replace kx := Hd.mk (kx.out.trans hx)
  replace kA := Hd.mk (kA.out.ext hx)
  replace kB := Hd.mk (kB.out.ext hx)
  replace ra := Hd.mk (ra.out.ext hx)
  replace rb := Hd.mk (rb.out.ext hx)
  clear hx
  have gkA := kA.out.cell
  have gkB := kB.out.cell
  go_wp2_with fail
  clear gkA gkB
  refine Calls.mono (law_small09 b (fun _ => True) _ _ hsb.out rb.out) ?_
  rintro e w3 ⟨rfl, hx⟩
  replace kx := Hd.mk (kx.out.trans hx)
  replace kA := Hd.mk (kA.out.ext hx)
  replace kB := Hd.mk (kB.out.ext hx)
  replace ra := Hd.mk (ra.out.ext hx)
  replace rb := Hd.mk (rb.out.ext hx)
  clear hx
  by_cases hs1 : ¬ a.size ≤ 300
  · have hb1 : decide (a.size ≤ 300) = false := decide_eq_false hs1
    rw [hb1]
    clear hs1
    have gkA := kA.out.cell
    go_wp2_with fail
    go_ret
    exact ⟨rfl, kx.out⟩
  replace hs1 := Decidable.of_not_not hs1
  rw [decide_eq_true hs1]
  by_cases hs2 : ¬ b.size ≤ 300
  · have hb1 : decide (b.size ≤ 300) = false := decide_eq_false hs2
    rw [hb1]
    clear hs2
    have gkA := kA.out.cell
    go_wp2_with fail
    go_ret
    exact ⟨rfl, kx.out⟩
  replace hs2 := Decidable.of_not_not hs2
  rw [decide_eq_true hs2]
  replace hs1 := Hd.mk hs1
  replace hs2 := Hd.mk hs2
  have gkA := kA.out.cell
  have gkB := kB.out.cell
  go_wp2_with fail
  clear gkA gkB
  refine Calls.mono (Calls.mono (tree_sorted 300 (by decide) (fun _ => sym_ok 300 (by decide)) a.deep a (fun _ => True) _ _ (Nat.le_refl _) hs1.out ra.out) sort_tt) ?_
  rintro e w4 ⟨c9, rfl, hr9, hx⟩
  obtain ⟨Ks, ks, rfl, _⟩ := hr9.row
  simp only [cT] at hr9 ⊢
  have hxA := hx.trans (Ext.alloc w4 (.cells #[.string (sortT a).name, .string (sortT a).key, .int .i64 (sortT a).kind, .int .u64 (sortT a).num, .string (sortT a).text, .slice Ks (sortT a).kids.length ks] 54))
  replace kx := Hd.mk (kx.out.trans hxA)
  replace kA := Hd.mk (kA.out.ext hxA)
  replace kB := Hd.mk (kB.out.ext hxA)
  replace ra := Hd.mk (ra.out.ext hxA)
  replace rb := Hd.mk (rb.out.ext hxA)
  have kS := Hd.mk (Blk.new w4 #[.string (sortT a).name, .string (sortT a).key, .int .i64 (sortT a).kind, .int .u64 (sortT a).num, .string (sortT a).text, .slice Ks (sortT a).kids.length ks] 54)
  replace hr9 := Hd.mk (hr9.ext (Ext.alloc w4 (.cells #[.string (sortT a).name, .string (sortT a).key, .int .i64 (sortT a).kind, .int .u64 (sortT a).num, .string (sortT a).text, .slice Ks (sortT a).kids.length ks] 54)))
  clear hx hxA
  have gkA := kA.out.cell
  have gkB := kB.out.cell
  go_wp2_with fail
  clear gkA gkB
  generalize w4.heap.size = pS at *
  generalize w4.alloc _ = W4 at *
  have rs := hr9
  clear hr9
  skip
  generalize W4 = V0 at *
  refine Flow.wp_region_flow_l (fun qq => match qq with
    | 24 => SP.eq (.agg #[.string a.name, .string a.key, .int .i64 a.kind, .int .u64 a.num, .string a.text, .slice Ka a.kids.length ka])
    | 25 => SP.eq (.bool (rightT a))
    | 26 => SP.eq (.agg #[.string a.name, .string a.key, .int .i64 a.kind, .int .u64 a.num, .string a.text, .slice Ka a.kids.length ka])
    | 27 => SP.eq (.bool (rightT a))
    | 28 => SP.eq (.bool true)
    | 29 => SP.eq (.bool true)
    | 30 => SP.eq (.agg #[.string a.name, .string a.key, .int .i64 a.kind, .int .u64 a.num, .string a.text, .slice Ka a.kids.length ka])
    | 31 => SP.eq (.int .i64 (a.size : Nat))
    | 32 => SP.eq (.agg #[.string a.name, .string a.key, .int .i64 a.kind, .int .u64 a.num, .string a.text, .slice Ka a.kids.length ka])
    | 33 => SP.eq (.int .i64 (a.size : Nat))
    | 34 => SP.eq (.bool true)
    | 35 => SP.eq (.bool true)
    | 36 => SP.eq (.bool true)
    | 37 => SP.eq (.agg #[.string (sortT a).name, .string (sortT a).key, .int .i64 (sortT a).kind, .int .u64 (sortT a).num, .string (sortT a).text, .slice Ks (sortT a).kids.length ks])
    | 38 => SP.eq (.agg #[.string a.name, .string a.key, .int .i64 a.kind, .int .u64 a.num, .string a.text, .slice Ka a.kids.length ka])
    | 39 => spTT (sortT a)
    | 40 => SP.eq (.bool true)
    | 41 => SP.eq (.bool true)
    | 42 => SP.eq (.bool true)
    | 43 => SP.eq (.agg #[.string a.name, .string a.key, .int .i64 a.kind, .int .u64 a.num, .string a.text, .slice Ka a.kids.length ka])
    | 44 => SP.eq (.agg #[.string b.name, .string b.key, .int .i64 b.kind, .int .u64 b.num, .string b.text, .slice Kb b.kids.length kb])
    | 45 => SP.eq (.bool (sameT a b))
    | 46 => SP.eq (.agg #[.string a.name, .string a.key, .int .i64 a.kind, .int .u64 a.num, .string a.text, .slice Ka a.kids.length ka])
    | 47 => SP.eq (.agg #[.string b.name, .string b.key, .int .i64 b.kind, .int .u64 b.num, .string b.text, .slice Kb b.kids.length kb])
    | 48 => SP.eq (.bool (sameT a b))
    | 49 => SP.eq (.bool true)
    | 50 => SP.eq (.bool true)
    | 51 => SP.eq (.bool true)
    | 52 => SP.eq (.agg #[.string a.name, .string a.key, .int .i64 a.kind, .int .u64 a.num, .string a.text, .slice Ka a.kids.length ka])
    | 53 => SP.eq (.agg #[.string b.name, .string b.key, .int .i64 b.kind, .int .u64 b.num, .string b.text, .slice Kb b.kids.length kb])
    | 54 => SP.eq (.bool (lessT a b))
    | 55 => SP.eq (.agg #[.string a.name, .string a.key, .int .i64 a.kind, .int .u64 a.num, .string a.text, .slice Ka a.kids.length ka])
    | 56 => SP.eq (.agg #[.string b.name, .string b.key, .int .i64 b.kind, .int .u64 b.num, .string b.text, .slice Kb b.kids.length kb])
    | 57 => SP.eq (.bool (lessT a b))
    | 58 => SP.eq (.bool true)
    | 59 => SP.eq (.bool true)
    | 60 => SP.eq (.bool true)
    | 61 => SP.eq (.agg #[.string (sortT a).name, .string (sortT a).key, .int .i64 (sortT a).kind, .int .u64 (sortT a).num, .string (sortT a).text, .slice Ks (sortT a).kids.length ks])
    | 62 => SP.eq (.agg #[.string a.name, .string a.key, .int .i64 a.kind, .int .u64 a.num, .string a.text, .slice Ka a.kids.length ka])
    | 63 => SP.eq (.bool (sameT (sortT a) a))
    | 64 => SP.eq (.agg #[.string (sortT a).name, .string (sortT a).key, .int .i64 (sortT a).kind, .int .u64 (sortT a).num, .string (sortT a).text, .slice Ks (sortT a).kids.length ks])
    | 65 => SP.eq (.agg #[.string a.name, .string a.key, .int .i64 a.kind, .int .u64 a.num, .string a.text, .slice Ka a.kids.length ka])
    | 66 => SP.eq (.bool (sameT (sortT a) a))
    | 67 => SP.eq (.bool true)
    | 68 => SP.eq (.bool true)
    | _ => SP.any) 45 (by kernel_rfl) 69 rfl (by kernel_rfl) ?_ ?_
  · skip
    refine ⟨?_, ?_, ?_, ?_, ?_, ?_, ?_, ?_, ?_, ?_, ?_, ?_, ?_, ?_, ?_, ?_, ?_, ?_, ?_, ?_, ?_, ?_, ?_, ?_, ?_, ?_, ?_, ?_, ?_, ?_, ?_, ?_, ?_, ?_, ?_, ?_, ?_, ?_, ?_, ?_, ?_, ?_, ?_, ?_, ?_, trivial⟩
    · intro act W2 hk
      refine Flow.does_intro rfl (fun Kq hK => ?_)
      have e2 : act.tmps[2]?.getD undef = .pointer (some ⟨pA, 0, none⟩) := hk.o 2 (by kernel_rfl)
      have g := ((kA.out).ext ((Ext.drew V0).trans hk.ext)).cell
      clear hk
      go_simp
      exact hK _ _ (Ext.refl _) (fun d hd => by cases hd; rfl)
    · intro act W2 hk
      refine Flow.does_intro rfl (fun Kq hK => ?_)
      have e24 : act.tmps[24]?.getD undef = .agg #[.string a.name, .string a.key, .int .i64 a.kind, .int .u64 a.num, .string a.text, .slice Ka a.kids.length ka] := hk.v 24 (by kernel_rfl)
      have hx0 := Hd.mk ((Ext.drew V0).trans hk.ext)
      clear hk
      go_simp
      refine Calls.mono ((tree_right a.deep a (fun _ => True) _ _ (Nat.le_refl _) (ra.out.ext hx0.out))) ?_
      rintro e W3 ⟨rfl, hx⟩
      exact hK _ _ hx (fun d hd => by cases hd; rfl)
    · intro act W2 hk
      refine Flow.does_intro rfl (fun Kq hK => ?_)
      have e2 : act.tmps[2]?.getD undef = .pointer (some ⟨pA, 0, none⟩) := hk.o 2 (by kernel_rfl)
      have g := ((kA.out).ext ((Ext.drew V0).trans hk.ext)).cell
      clear hk
      go_simp
      exact hK _ _ (Ext.refl _) (fun d hd => by cases hd; rfl)
    · intro act W2 hk
      refine Flow.does_intro rfl (fun Kq hK => ?_)
      have e26 : act.tmps[26]?.getD undef = .agg #[.string a.name, .string a.key, .int .i64 a.kind, .int .u64 a.num, .string a.text, .slice Ka a.kids.length ka] := hk.v 26 (by kernel_rfl)
      have hx0 := Hd.mk ((Ext.drew V0).trans hk.ext)
      clear hk
      go_simp
      refine Calls.mono ((ref_right a.deep a (fun _ => True) _ _ (Nat.le_refl _) (ra.out.ext hx0.out))) ?_
      rintro e W3 ⟨rfl, hx⟩
      exact hK _ _ hx (fun d hd => by cases hd; rfl)
    · intro act W2 hk
      refine Flow.does_intro rfl (fun Kq hK => ?_)
      have e25 : act.tmps[25]?.getD undef = .bool (rightT a) := hk.v 25 (by kernel_rfl)
      have e27 : act.tmps[27]?.getD undef = .bool (rightT a) := hk.v 27 (by kernel_rfl)
      clear hk
      go_simp
      exact hK _ _ (Ext.refl _) (fun d hd => by cases hd; simp [SP.eq])
    · intro act W2 hk
      refine Flow.does_intro rfl (fun Kq hK => ?_)
      have e28 : act.tmps[28]?.getD undef = .bool true := hk.v 28 (by kernel_rfl)
      clear hk
      go_simp
      exact hK _ _ (Ext.refl _) (fun d hd => by cases hd; rfl)
    · intro act W2 hk
      have eg : act.tmps[29]?.getD undef = .bool true := hk.v 29 (by kernel_rfl)
      refine Flow.does_intro (wanted_yes rfl rfl eg) (fun Kq hK => ?_)
      clear eg
      have e2 : act.tmps[2]?.getD undef = .pointer (some ⟨pA, 0, none⟩) := hk.o 2 (by kernel_rfl)
      have g := ((kA.out).ext ((Ext.drew V0).trans hk.ext)).cell
      clear hk
      go_simp
      exact hK _ _ (Ext.refl _) (fun d hd => by cases hd; rfl)
    · intro act W2 hk
      have eg : act.tmps[29]?.getD undef = .bool true := hk.v 29 (by kernel_rfl)
      refine Flow.does_intro (wanted_yes rfl rfl eg) (fun Kq hK => ?_)
      clear eg
      have e30 : act.tmps[30]?.getD undef = .agg #[.string a.name, .string a.key, .int .i64 a.kind, .int .u64 a.num, .string a.text, .slice Ka a.kids.length ka] := hk.v 30 (by kernel_rfl)
      have hx0 := Hd.mk ((Ext.drew V0).trans hk.ext)
      clear hk
      go_simp
      refine Calls.mono ((tree_size a.size a (fun _ => True) _ _ (Nat.le_refl _) hsa.out (ra.out.ext hx0.out))) ?_
      rintro e W3 ⟨rfl, hx⟩
      exact hK _ _ hx (fun d hd => by cases hd; rfl)
    · intro act W2 hk
      have eg : act.tmps[29]?.getD undef = .bool true := hk.v 29 (by kernel_rfl)
      refine Flow.does_intro (wanted_yes rfl rfl eg) (fun Kq hK => ?_)
      clear eg
      have e2 : act.tmps[2]?.getD undef = .pointer (some ⟨pA, 0, none⟩) := hk.o 2 (by kernel_rfl)
      have g := ((kA.out).ext ((Ext.drew V0).trans hk.ext)).cell
      clear hk
      go_simp
      exact hK _ _ (Ext.refl _) (fun d hd => by cases hd; rfl)
    · intro act W2 hk
      have eg : act.tmps[29]?.getD undef = .bool true := hk.v 29 (by kernel_rfl)
      refine Flow.does_intro (wanted_yes rfl rfl eg) (fun Kq hK => ?_)
      clear eg
      have e32 : act.tmps[32]?.getD undef = .agg #[.string a.name, .string a.key, .int .i64 a.kind, .int .u64 a.num, .string a.text, .slice Ka a.kids.length ka] := hk.v 32 (by kernel_rfl)
      have hx0 := Hd.mk ((Ext.drew V0).trans hk.ext)
      clear hk
      go_simp
      refine Calls.mono ((ref_size a.size a (fun _ => True) _ _ (Nat.le_refl _) hsa.out (ra.out.ext hx0.out))) ?_
      rintro e W3 ⟨rfl, hx⟩
      exact hK _ _ hx (fun d hd => by cases hd; rfl)
    · intro act W2 hk
      have eg : act.tmps[29]?.getD undef = .bool true := hk.v 29 (by kernel_rfl)
      refine Flow.does_intro (wanted_yes rfl rfl eg) (fun Kq hK => ?_)
      clear eg
      have e31 : act.tmps[31]?.getD undef = .int .i64 (a.size : Nat) := hk.v 31 (by kernel_rfl)
      have e33 : act.tmps[33]?.getD undef = .int .i64 (a.size : Nat) := hk.v 33 (by kernel_rfl)
      clear hk
      go_simp
      exact hK _ _ (Ext.refl _) (fun d hd => by cases hd; simp [SP.eq])
    · intro act W2 hk
      refine Flow.does_intro rfl (fun Kq hK => ?_)
      have e29 : act.tmps[29]?.getD undef = .bool true := hk.v 29 (by kernel_rfl)
      have e34 : act.tmps[34]?.getD undef = .bool true := hk.v 34 (by kernel_rfl)
      clear hk
      go_simp
      exact hK _ _ (Ext.refl _) (fun d hd => by cases hd; rfl)
    · intro act W2 hk
      refine Flow.does_intro rfl (fun Kq hK => ?_)
      have e35 : act.tmps[35]?.getD undef = .bool true := hk.v 35 (by kernel_rfl)
      clear hk
      go_simp
      exact hK _ _ (Ext.refl _) (fun d hd => by cases hd; rfl)
    · intro act W2 hk
      have eg : act.tmps[36]?.getD undef = .bool true := hk.v 36 (by kernel_rfl)
      refine Flow.does_intro (wanted_yes rfl rfl eg) (fun Kq hK => ?_)
      clear eg
      have e8 : act.tmps[8]?.getD undef = .pointer (some ⟨pS, 0, none⟩) := hk.o 8 (by kernel_rfl)
      have g := ((kS.out).ext ((Ext.drew V0).trans hk.ext)).cell
      clear hk
      go_simp
      exact hK _ _ (Ext.refl _) (fun d hd => by cases hd; rfl)
    · intro act W2 hk
      have eg : act.tmps[36]?.getD undef = .bool true := hk.v 36 (by kernel_rfl)
      refine Flow.does_intro (wanted_yes rfl rfl eg) (fun Kq hK => ?_)
      clear eg
      have e2 : act.tmps[2]?.getD undef = .pointer (some ⟨pA, 0, none⟩) := hk.o 2 (by kernel_rfl)
      have g := ((kA.out).ext ((Ext.drew V0).trans hk.ext)).cell
      clear hk
      go_simp
      exact hK _ _ (Ext.refl _) (fun d hd => by cases hd; rfl)
    · intro act W2 hk
      have eg : act.tmps[36]?.getD undef = .bool true := hk.v 36 (by kernel_rfl)
      refine Flow.does_intro (wanted_yes rfl rfl eg) (fun Kq hK => ?_)
      clear eg
      have e38 : act.tmps[38]?.getD undef = .agg #[.string a.name, .string a.key, .int .i64 a.kind, .int .u64 a.num, .string a.text, .slice Ka a.kids.length ka] := hk.v 38 (by kernel_rfl)
      have hx0 := Hd.mk ((Ext.drew V0).trans hk.ext)
      clear hk
      go_simp
      refine Calls.mono (Calls.mono (ref_sorted a.deep a (fun _ => True) _ _ (Nat.le_refl _) hsa.out (ra.out.ext hx0.out)) sort_tt) ?_
      rintro e W3 ⟨c9, rfl, hr9, hx⟩
      exact hK _ _ hx (fun d hd => by cases hd; exact ⟨c9, rfl, hr9⟩)
    · intro act W2 hk
      have eg : act.tmps[36]?.getD undef = .bool true := hk.v 36 (by kernel_rfl)
      refine Flow.does_intro (wanted_yes rfl rfl eg) (fun Kq hK => ?_)
      clear eg
      have e37 : act.tmps[37]?.getD undef = .agg #[.string (sortT a).name, .string (sortT a).key, .int .i64 (sortT a).kind, .int .u64 (sortT a).num, .string (sortT a).text, .slice Ks (sortT a).kids.length ks] := hk.v 37 (by kernel_rfl)
      have hx0 := Hd.mk ((Ext.drew V0).trans hk.ext)
      obtain ⟨c9, e39, h39⟩ := (hk.v 39 (by kernel_rfl) : (spTT (sortT a)).p _ _)
      have hsm := ref_same _ _ _ (fun _ => True) _ _ _ (Nat.le_refl _) (rs.out.ext hx0.out) h39
      rw [sameT_rfl] at hsm
      replace hsm := Hd.mk hsm
      clear hk
      go_simp
      refine Calls.mono ((hsm.out)) ?_
      rintro e W3 ⟨rfl, hx⟩
      exact hK _ _ hx (fun d hd => by cases hd; rfl)
    · intro act W2 hk
      refine Flow.does_intro rfl (fun Kq hK => ?_)
      have e36 : act.tmps[36]?.getD undef = .bool true := hk.v 36 (by kernel_rfl)
      have e40 : act.tmps[40]?.getD undef = .bool true := hk.v 40 (by kernel_rfl)
      clear hk
      go_simp
      exact hK _ _ (Ext.refl _) (fun d hd => by cases hd; rfl)
    · intro act W2 hk
      refine Flow.does_intro rfl (fun Kq hK => ?_)
      have e41 : act.tmps[41]?.getD undef = .bool true := hk.v 41 (by kernel_rfl)
      clear hk
      go_simp
      exact hK _ _ (Ext.refl _) (fun d hd => by cases hd; rfl)
    · intro act W2 hk
      have eg : act.tmps[42]?.getD undef = .bool true := hk.v 42 (by kernel_rfl)
      refine Flow.does_intro (wanted_yes rfl rfl eg) (fun Kq hK => ?_)
      clear eg
      have e2 : act.tmps[2]?.getD undef = .pointer (some ⟨pA, 0, none⟩) := hk.o 2 (by kernel_rfl)
      have g := ((kA.out).ext ((Ext.drew V0).trans hk.ext)).cell
      clear hk
      go_simp
      exact hK _ _ (Ext.refl _) (fun d hd => by cases hd; rfl)
    · intro act W2 hk
      have eg : act.tmps[42]?.getD undef = .bool true := hk.v 42 (by kernel_rfl)
      refine Flow.does_intro (wanted_yes rfl rfl eg) (fun Kq hK => ?_)
      clear eg
      have e3 : act.tmps[3]?.getD undef = .pointer (some ⟨(pA + 1), 0, none⟩) := hk.o 3 (by kernel_rfl)
      have g := ((kB.out).ext ((Ext.drew V0).trans hk.ext)).cell
      clear hk
      go_simp
      exact hK _ _ (Ext.refl _) (fun d hd => by cases hd; rfl)
    · intro act W2 hk
      have eg : act.tmps[42]?.getD undef = .bool true := hk.v 42 (by kernel_rfl)
      refine Flow.does_intro (wanted_yes rfl rfl eg) (fun Kq hK => ?_)
      clear eg
      have e43 : act.tmps[43]?.getD undef = .agg #[.string a.name, .string a.key, .int .i64 a.kind, .int .u64 a.num, .string a.text, .slice Ka a.kids.length ka] := hk.v 43 (by kernel_rfl)
      have e44 : act.tmps[44]?.getD undef = .agg #[.string b.name, .string b.key, .int .i64 b.kind, .int .u64 b.num, .string b.text, .slice Kb b.kids.length kb] := hk.v 44 (by kernel_rfl)
      have hx0 := Hd.mk ((Ext.drew V0).trans hk.ext)
      clear hk
      go_simp
      refine Calls.mono ((tree_same a.deep a b (fun _ => True) _ _ _ (Nat.le_refl _) (ra.out.ext hx0.out) (rb.out.ext hx0.out))) ?_
      rintro e W3 ⟨rfl, hx⟩
      exact hK _ _ hx (fun d hd => by cases hd; rfl)
    · intro act W2 hk
      have eg : act.tmps[42]?.getD undef = .bool true := hk.v 42 (by kernel_rfl)
      refine Flow.does_intro (wanted_yes rfl rfl eg) (fun Kq hK => ?_)
      clear eg
      have e2 : act.tmps[2]?.getD undef = .pointer (some ⟨pA, 0, none⟩) := hk.o 2 (by kernel_rfl)
      have g := ((kA.out).ext ((Ext.drew V0).trans hk.ext)).cell
      clear hk
      go_simp
      exact hK _ _ (Ext.refl _) (fun d hd => by cases hd; rfl)
    · intro act W2 hk
      have eg : act.tmps[42]?.getD undef = .bool true := hk.v 42 (by kernel_rfl)
      refine Flow.does_intro (wanted_yes rfl rfl eg) (fun Kq hK => ?_)
      clear eg
      have e3 : act.tmps[3]?.getD undef = .pointer (some ⟨(pA + 1), 0, none⟩) := hk.o 3 (by kernel_rfl)
      have g := ((kB.out).ext ((Ext.drew V0).trans hk.ext)).cell
      clear hk
      go_simp
      exact hK _ _ (Ext.refl _) (fun d hd => by cases hd; rfl)
    · intro act W2 hk
      have eg : act.tmps[42]?.getD undef = .bool true := hk.v 42 (by kernel_rfl)
      refine Flow.does_intro (wanted_yes rfl rfl eg) (fun Kq hK => ?_)
      clear eg
      have e46 : act.tmps[46]?.getD undef = .agg #[.string a.name, .string a.key, .int .i64 a.kind, .int .u64 a.num, .string a.text, .slice Ka a.kids.length ka] := hk.v 46 (by kernel_rfl)
      have e47 : act.tmps[47]?.getD undef = .agg #[.string b.name, .string b.key, .int .i64 b.kind, .int .u64 b.num, .string b.text, .slice Kb b.kids.length kb] := hk.v 47 (by kernel_rfl)
      have hx0 := Hd.mk ((Ext.drew V0).trans hk.ext)
      clear hk
      go_simp
      refine Calls.mono ((ref_same a.deep a b (fun _ => True) _ _ _ (Nat.le_refl _) (ra.out.ext hx0.out) (rb.out.ext hx0.out))) ?_
      rintro e W3 ⟨rfl, hx⟩
      exact hK _ _ hx (fun d hd => by cases hd; rfl)
    · intro act W2 hk
      have eg : act.tmps[42]?.getD undef = .bool true := hk.v 42 (by kernel_rfl)
      refine Flow.does_intro (wanted_yes rfl rfl eg) (fun Kq hK => ?_)
      clear eg
      have e45 : act.tmps[45]?.getD undef = .bool (sameT a b) := hk.v 45 (by kernel_rfl)
      have e48 : act.tmps[48]?.getD undef = .bool (sameT a b) := hk.v 48 (by kernel_rfl)
      clear hk
      go_simp
      exact hK _ _ (Ext.refl _) (fun d hd => by cases hd; simp [SP.eq])
    · intro act W2 hk
      refine Flow.does_intro rfl (fun Kq hK => ?_)
      have e42 : act.tmps[42]?.getD undef = .bool true := hk.v 42 (by kernel_rfl)
      have e49 : act.tmps[49]?.getD undef = .bool true := hk.v 49 (by kernel_rfl)
      clear hk
      go_simp
      exact hK _ _ (Ext.refl _) (fun d hd => by cases hd; rfl)
    · intro act W2 hk
      refine Flow.does_intro rfl (fun Kq hK => ?_)
      have e50 : act.tmps[50]?.getD undef = .bool true := hk.v 50 (by kernel_rfl)
      clear hk
      go_simp
      exact hK _ _ (Ext.refl _) (fun d hd => by cases hd; rfl)
    · intro act W2 hk
      have eg : act.tmps[51]?.getD undef = .bool true := hk.v 51 (by kernel_rfl)
      refine Flow.does_intro (wanted_yes rfl rfl eg) (fun Kq hK => ?_)
      clear eg
      have e2 : act.tmps[2]?.getD undef = .pointer (some ⟨pA, 0, none⟩) := hk.o 2 (by kernel_rfl)
      have g := ((kA.out).ext ((Ext.drew V0).trans hk.ext)).cell
      clear hk
      go_simp
      exact hK _ _ (Ext.refl _) (fun d hd => by cases hd; rfl)
    · intro act W2 hk
      have eg : act.tmps[51]?.getD undef = .bool true := hk.v 51 (by kernel_rfl)
      refine Flow.does_intro (wanted_yes rfl rfl eg) (fun Kq hK => ?_)
      clear eg
      have e3 : act.tmps[3]?.getD undef = .pointer (some ⟨(pA + 1), 0, none⟩) := hk.o 3 (by kernel_rfl)
      have g := ((kB.out).ext ((Ext.drew V0).trans hk.ext)).cell
      clear hk
      go_simp
      exact hK _ _ (Ext.refl _) (fun d hd => by cases hd; rfl)
    · intro act W2 hk
      have eg : act.tmps[51]?.getD undef = .bool true := hk.v 51 (by kernel_rfl)
      refine Flow.does_intro (wanted_yes rfl rfl eg) (fun Kq hK => ?_)
      clear eg
      have e52 : act.tmps[52]?.getD undef = .agg #[.string a.name, .string a.key, .int .i64 a.kind, .int .u64 a.num, .string a.text, .slice Ka a.kids.length ka] := hk.v 52 (by kernel_rfl)
      have e53 : act.tmps[53]?.getD undef = .agg #[.string b.name, .string b.key, .int .i64 b.kind, .int .u64 b.num, .string b.text, .slice Kb b.kids.length kb] := hk.v 53 (by kernel_rfl)
      clear hk
      go_simp
      refine Calls.mono ((tree_less a b Ka Kb a.kids.length ka b.kids.length kb _)) ?_
      rintro e W3 ⟨rfl, hx⟩
      exact hK _ _ hx (fun d hd => by cases hd; rfl)
    · intro act W2 hk
      have eg : act.tmps[51]?.getD undef = .bool true := hk.v 51 (by kernel_rfl)
      refine Flow.does_intro (wanted_yes rfl rfl eg) (fun Kq hK => ?_)
      clear eg
      have e2 : act.tmps[2]?.getD undef = .pointer (some ⟨pA, 0, none⟩) := hk.o 2 (by kernel_rfl)
      have g := ((kA.out).ext ((Ext.drew V0).trans hk.ext)).cell
      clear hk
      go_simp
      exact hK _ _ (Ext.refl _) (fun d hd => by cases hd; rfl)
    · intro act W2 hk
      have eg : act.tmps[51]?.getD undef = .bool true := hk.v 51 (by kernel_rfl)
      refine Flow.does_intro (wanted_yes rfl rfl eg) (fun Kq hK => ?_)
      clear eg
      have e3 : act.tmps[3]?.getD undef = .pointer (some ⟨(pA + 1), 0, none⟩) := hk.o 3 (by kernel_rfl)
      have g := ((kB.out).ext ((Ext.drew V0).trans hk.ext)).cell
      clear hk
      go_simp
      exact hK _ _ (Ext.refl _) (fun d hd => by cases hd; rfl)
    · intro act W2 hk
      have eg : act.tmps[51]?.getD undef = .bool true := hk.v 51 (by kernel_rfl)
      refine Flow.does_intro (wanted_yes rfl rfl eg) (fun Kq hK => ?_)
      clear eg
      have e55 : act.tmps[55]?.getD undef = .agg #[.string a.name, .string a.key, .int .i64 a.kind, .int .u64 a.num, .string a.text, .slice Ka a.kids.length ka] := hk.v 55 (by kernel_rfl)
      have e56 : act.tmps[56]?.getD undef = .agg #[.string b.name, .string b.key, .int .i64 b.kind, .int .u64 b.num, .string b.text, .slice Kb b.kids.length kb] := hk.v 56 (by kernel_rfl)
      clear hk
      go_simp
      refine Calls.mono ((ref_less a b Ka Kb a.kids.length ka b.kids.length kb _)) ?_
      rintro e W3 ⟨rfl, hx⟩
      exact hK _ _ hx (fun d hd => by cases hd; rfl)
    · intro act W2 hk
      have eg : act.tmps[51]?.getD undef = .bool true := hk.v 51 (by kernel_rfl)
      refine Flow.does_intro (wanted_yes rfl rfl eg) (fun Kq hK => ?_)
      clear eg
      have e54 : act.tmps[54]?.getD undef = .bool (lessT a b) := hk.v 54 (by kernel_rfl)
      have e57 : act.tmps[57]?.getD undef = .bool (lessT a b) := hk.v 57 (by kernel_rfl)
      clear hk
      go_simp
      exact hK _ _ (Ext.refl _) (fun d hd => by cases hd; simp [SP.eq])
    · intro act W2 hk
      refine Flow.does_intro rfl (fun Kq hK => ?_)
      have e51 : act.tmps[51]?.getD undef = .bool true := hk.v 51 (by kernel_rfl)
      have e58 : act.tmps[58]?.getD undef = .bool true := hk.v 58 (by kernel_rfl)
      clear hk
      go_simp
      exact hK _ _ (Ext.refl _) (fun d hd => by cases hd; rfl)
    · intro act W2 hk
      refine Flow.does_intro rfl (fun Kq hK => ?_)
      have e59 : act.tmps[59]?.getD undef = .bool true := hk.v 59 (by kernel_rfl)
      clear hk
      go_simp
      exact hK _ _ (Ext.refl _) (fun d hd => by cases hd; rfl)
    · intro act W2 hk
      have eg : act.tmps[60]?.getD undef = .bool true := hk.v 60 (by kernel_rfl)
      refine Flow.does_intro (wanted_yes rfl rfl eg) (fun Kq hK => ?_)
      clear eg
      have e8 : act.tmps[8]?.getD undef = .pointer (some ⟨pS, 0, none⟩) := hk.o 8 (by kernel_rfl)
      have g := ((kS.out).ext ((Ext.drew V0).trans hk.ext)).cell
      clear hk
      go_simp
      exact hK _ _ (Ext.refl _) (fun d hd => by cases hd; rfl)
    · intro act W2 hk
      have eg : act.tmps[60]?.getD undef = .bool true := hk.v 60 (by kernel_rfl)
      refine Flow.does_intro (wanted_yes rfl rfl eg) (fun Kq hK => ?_)
      clear eg
      have e2 : act.tmps[2]?.getD undef = .pointer (some ⟨pA, 0, none⟩) := hk.o 2 (by kernel_rfl)
      have g := ((kA.out).ext ((Ext.drew V0).trans hk.ext)).cell
      clear hk
      go_simp
      exact hK _ _ (Ext.refl _) (fun d hd => by cases hd; rfl)
    · intro act W2 hk
      have eg : act.tmps[60]?.getD undef = .bool true := hk.v 60 (by kernel_rfl)
      refine Flow.does_intro (wanted_yes rfl rfl eg) (fun Kq hK => ?_)
      clear eg
      have e61 : act.tmps[61]?.getD undef = .agg #[.string (sortT a).name, .string (sortT a).key, .int .i64 (sortT a).kind, .int .u64 (sortT a).num, .string (sortT a).text, .slice Ks (sortT a).kids.length ks] := hk.v 61 (by kernel_rfl)
      have e62 : act.tmps[62]?.getD undef = .agg #[.string a.name, .string a.key, .int .i64 a.kind, .int .u64 a.num, .string a.text, .slice Ka a.kids.length ka] := hk.v 62 (by kernel_rfl)
      have hx0 := Hd.mk ((Ext.drew V0).trans hk.ext)
      clear hk
      go_simp
      refine Calls.mono ((tree_same (sortT a).deep (sortT a) a (fun _ => True) _ _ _ (Nat.le_refl _) (rs.out.ext hx0.out) (ra.out.ext hx0.out))) ?_
      rintro e W3 ⟨rfl, hx⟩
      exact hK _ _ hx (fun d hd => by cases hd; rfl)
    · intro act W2 hk
      have eg : act.tmps[60]?.getD undef = .bool true := hk.v 60 (by kernel_rfl)
      refine Flow.does_intro (wanted_yes rfl rfl eg) (fun Kq hK => ?_)
      clear eg
      have e8 : act.tmps[8]?.getD undef = .pointer (some ⟨pS, 0, none⟩) := hk.o 8 (by kernel_rfl)
      have g := ((kS.out).ext ((Ext.drew V0).trans hk.ext)).cell
      clear hk
      go_simp
      exact hK _ _ (Ext.refl _) (fun d hd => by cases hd; rfl)
    · intro act W2 hk
      have eg : act.tmps[60]?.getD undef = .bool true := hk.v 60 (by kernel_rfl)
      refine Flow.does_intro (wanted_yes rfl rfl eg) (fun Kq hK => ?_)
      clear eg
      have e2 : act.tmps[2]?.getD undef = .pointer (some ⟨pA, 0, none⟩) := hk.o 2 (by kernel_rfl)
      have g := ((kA.out).ext ((Ext.drew V0).trans hk.ext)).cell
      clear hk
      go_simp
      exact hK _ _ (Ext.refl _) (fun d hd => by cases hd; rfl)
    · intro act W2 hk
      have eg : act.tmps[60]?.getD undef = .bool true := hk.v 60 (by kernel_rfl)
      refine Flow.does_intro (wanted_yes rfl rfl eg) (fun Kq hK => ?_)
      clear eg
      have e64 : act.tmps[64]?.getD undef = .agg #[.string (sortT a).name, .string (sortT a).key, .int .i64 (sortT a).kind, .int .u64 (sortT a).num, .string (sortT a).text, .slice Ks (sortT a).kids.length ks] := hk.v 64 (by kernel_rfl)
      have e65 : act.tmps[65]?.getD undef = .agg #[.string a.name, .string a.key, .int .i64 a.kind, .int .u64 a.num, .string a.text, .slice Ka a.kids.length ka] := hk.v 65 (by kernel_rfl)
      have hx0 := Hd.mk ((Ext.drew V0).trans hk.ext)
      clear hk
      go_simp
      refine Calls.mono ((ref_same (sortT a).deep (sortT a) a (fun _ => True) _ _ _ (Nat.le_refl _) (rs.out.ext hx0.out) (ra.out.ext hx0.out))) ?_
      rintro e W3 ⟨rfl, hx⟩
      exact hK _ _ hx (fun d hd => by cases hd; rfl)
    · intro act W2 hk
      have eg : act.tmps[60]?.getD undef = .bool true := hk.v 60 (by kernel_rfl)
      refine Flow.does_intro (wanted_yes rfl rfl eg) (fun Kq hK => ?_)
      clear eg
      have e63 : act.tmps[63]?.getD undef = .bool (sameT (sortT a) a) := hk.v 63 (by kernel_rfl)
      have e66 : act.tmps[66]?.getD undef = .bool (sameT (sortT a) a) := hk.v 66 (by kernel_rfl)
      clear hk
      go_simp
      exact hK _ _ (Ext.refl _) (fun d hd => by cases hd; simp [SP.eq])
    · intro act W2 hk
      refine Flow.does_intro rfl (fun Kq hK => ?_)
      have e60 : act.tmps[60]?.getD undef = .bool true := hk.v 60 (by kernel_rfl)
      have e67 : act.tmps[67]?.getD undef = .bool true := hk.v 67 (by kernel_rfl)
      clear hk
      go_simp
      exact hK _ _ (Ext.refl _) (fun d hd => by cases hd; rfl)
  · intro act W2 he
    have hxW2 := Hd.mk ((Ext.drew V0).trans he.ext)
    obtain ⟨us, hA, hF⟩ := he.out [24, 25, 26, 27, 28, 29, 30, 31, 32, 33, 34, 35, 36, 37, 38, 39, 40, 41, 42, 43, 44, 45, 46, 47, 48, 49, 50, 51, 52, 53, 54, 55, 56, 57, 58, 59, 60, 61, 62, 63, 64, 65, 66, 67, 68] (by kernel_rfl)
    simp only [Flow.fillL, List.contains_cons, List.contains_nil, Nat.reduceBEq, Bool.or_false, Bool.false_or, Bool.or_true, Bool.true_or, ↓reduceIte, Nat.reduceAdd, Bool.false_eq_true] at hA
    subst hA
    have f68 : us 68 = .bool true := hF 68 (by simp)
    clear hF he
    rw [f68]
    clear f68
    refine (show wpList _ _ _ (⟨some 4, .assign (.tmp 68), _, _, _, none⟩ :: []) _ _ from ?_)
    go_wp2_with fail
    go_ret
    exact ⟨rfl, kx.out.trans hxW2.out⟩
end Go.Proofs.Ytgkgedjmnbjalaa
set_option linter.unusedSimpArgs false
namespace Go.Proofs.Ytgkgedjmnbjalaa
open Go.RowKit Go.Sort
def RFPost (t : T) (u : Value) (w w' : World) (v : Value) : Prop := ∃ c : List Value, v = .tuple #[.agg c.toArray, u] ∧ RF (fun b => w.heap.size ≤ b ∧ b < w'.heap.size) w' t c ∧ Ext w w'
theorem get_rf {o : Option T} {w : World} : ∀ e w', Ret (GetPost o w) e w' → Ret (RFPost (o.getD zeroT) (.bool o.isSome) w) e w' := fun e w' ⟨v, h1, hx, h⟩ => by
  rcases h with ⟨rfl, rfl⟩ | ⟨u, c, rfl, rfl, ho⟩
  · exact ⟨_, h1, _, rfl, rt_zero _ _, hx⟩
  · exact ⟨_, h1, c, rfl, ho.rf, hx⟩
theorem chg_rf {r : T × Int} {w : World} : ∀ e w', Ret (ChgPost r w) e w' → Ret (RFPost r.1 (.int .i64 r.2) w) e w' := fun e w' ⟨v, h1, c, h2, ho, hx⟩ => ⟨v, h1, c, h2, ho.rf, hx⟩
theorem sort_rf {t : T} {w : World} (hr : rightT t = true) : ∀ e w', Ret (SortPostF t w) e w' → ∃ c : List Value, e = .returned (.agg c.toArray) ∧ RF (fun b => w.heap.size ≤ b ∧ b < w'.heap.size) w' t c ∧ Ext w w' := fun e w' ⟨v, h1, c, h2, h3, h4⟩ => by
  rw [sortT_right t hr] at h3
  exact ⟨c, by rw [h1, h2], h3.mono fun b hb h => ⟨h, hb⟩, h4⟩
theorem sort_was {t : T} {w : World} (hr : rightT t = true) : ∀ e w', Ret (SortPost t w) e w' → ∃ c : List Value, e = .returned (.agg c.toArray) ∧ RT (fun _ => True) w' t c ∧ Ext w w' := fun e w' ⟨v, h1, c, h2, h3, h4⟩ => by
  rw [sortT_right t hr] at h3
  exact ⟨c, by rw [h1, h2], h3.mono fun _ _ _ => trivial, h4⟩
theorem RF.shc {S : Nat → Prop} {w : World} {t : T} {N : Nat} {K : Option Addr} {n kc : Nat} {nm ky tx : ByteArray} {kd num : Int} (h : RF S w t [.string nm, .string ky, .int .i64 kd, .int .u64 num, .string tx, .slice K n kc]) (hd : t.deep ≤ N) : SH S w N K n ∧ n ≤ kc := by
  obtain ⟨K', kc', he, hr⟩ := RT.row h
  simp only [cT, List.cons.injEq, Value.slice.injEq, and_true] at he
  obtain ⟨_, _, _, _, _, rfl, rfl, rfl⟩ := he
  exact ⟨RF.sh hd hr, hr.cap⟩
set_option maxRecDepth 100000 in
set_option maxHeartbeats 4000000 in
theorem own09_walk (n x : T) (way : List Step) (w : World) (c cx : List Value) (A : Option Addr) (ac : Nat) (h : RT (fun _ => True) w n c) (hw : WRow (fun _ => True) w A way ac) (hx : RT (fun _ => True) w x cx) (hsn : n.size ≤ 1048576) (hsx : x.size ≤ 1048576) :
    Calls Try.prog 19 #[.agg c.toArray, .slice A way.length ac, .agg cx.toArray] w fun e w' => e = .returned (.bool true) ∧ Ext w w' := by
  obtain ⟨Kn, kn, rfl, _⟩ := h.row
  obtain ⟨Kx, k0, rfl, _⟩ := hx.row
  have hwl := hw.len
  have rn := Hd.mk h
  have rx := Hd.mk hx
  have rw' := Hd.mk hw
  replace hsn := Hd.mk hsn
  replace hsx := Hd.mk hsx
  clear h hx hw
  simp only [cT] at rn rx ⊢
  go_enter Try.func19, Try.ntmps19
  go_wp2_with fail
  have hxA := (Ext.alloc w (.cells #[.string n.name, .string n.key, .int .i64 n.kind, .int .u64 n.num, .string n.text, .slice Kn n.kids.length kn] 54)).trans (Ext.alloc _ (.cells #[.string x.name, .string x.key, .int .i64 x.kind, .int .u64 x.num, .string x.text, .slice Kx x.kids.length k0] 54))
  have kx := Hd.mk hxA
  have kN := Hd.mk ((Blk.new w #[.string n.name, .string n.key, .int .i64 n.kind, .int .u64 n.num, .string n.text, .slice Kn n.kids.length kn] 54).alloc (.cells #[.string x.name, .string x.key, .int .i64 x.kind, .int .u64 x.num, .string x.text, .slice Kx x.kids.length k0] 54))
  have kX := Hd.mk (Blk.new2 w (.cells #[.string n.name, .string n.key, .int .i64 n.kind, .int .u64 n.num, .string n.text, .slice Kn n.kids.length kn] 54) #[.string x.name, .string x.key, .int .i64 x.kind, .int .u64 x.num, .string x.text, .slice Kx x.kids.length k0] 54)
  replace rn := Hd.mk (rn.out.ext hxA)
  replace rx := Hd.mk (rx.out.ext hxA)
  replace rw' := Hd.mk (rw'.out.ext hxA)
  clear hxA
  generalize w.heap.size = pN at *
  generalize (w.alloc _).alloc _ = W at *
  refine Calls.mono (awake09 _) ?_
  rintro e w1 ⟨rfl, hx⟩
  replace kx := Hd.mk (kx.out.trans hx)
  replace kN := Hd.mk (kN.out.ext hx)
  replace kX := Hd.mk (kX.out.ext hx)
  replace rn := Hd.mk (rn.out.ext hx)
  replace rx := Hd.mk (rx.out.ext hx)
  replace rw' := Hd.mk (rw'.out.ext hx)
  clear hx
  have gkN := kN.out.cell
  have gkX := kX.out.cell
  go_wp2_with fail
  clear gkN gkX
  refine Calls.mono (law_small09 n (fun _ => True) _ _ hsn.out rn.out) ?_
  rintro e w2 ⟨rfl, hx⟩
  replace kx := Hd.mk (kx.out.trans hx)
  replace kN := Hd.mk (kN.out.ext hx)
  replace kX := Hd.mk (kX.out.ext hx)
  replace rn := Hd.mk (rn.out.ext hx)
  replace rx := Hd.mk (rx.out.ext hx)
  replace rw' := Hd.mk (rw'.out.ext hx)
  clear hx
  have gkN := kN.out.cell
  have gkX := kX.out.cell
  go_wp2_with fail
  clear gkN gkX
  refine Calls.mono (law_small09 x (fun _ => True) _ _ hsx.out rx.out) ?_
  rintro e w3 ⟨rfl, hx⟩
  replace kx := Hd.mk (kx.out.trans hx)
  replace kN := Hd.mk (kN.out.ext hx)
  replace kX := Hd.mk (kX.out.ext hx)
  replace rn := Hd.mk (rn.out.ext hx)
  replace rx := Hd.mk (rx.out.ext hx)
  replace rw' := Hd.mk (rw'.out.ext hx)
  clear hx
  have hb1 : decide (n.size ≤ 300) = decide (n.size ≤ 300) := rfl
  clear hb1
  by_cases hs1 : ¬ n.size ≤ 300
  · have hb1 : decide (n.size ≤ 300) = false := decide_eq_false hs1
    rw [hb1]
    clear hs1
    have gkN := kN.out.cell
    go_wp2_with fail
    go_ret
    exact ⟨rfl, kx.out⟩
  replace hs1 := Decidable.of_not_not hs1
  rw [decide_eq_true hs1]
  by_cases hs2 : ¬ x.size ≤ 300
  · have hb1 : decide (x.size ≤ 300) = false := decide_eq_false hs2
    rw [hb1]
    clear hs2
    have gkN := kN.out.cell
    go_wp2_with fail
    go_ret
    exact ⟨rfl, kx.out⟩
  replace hs2 := Decidable.of_not_not hs2
  rw [decide_eq_true hs2]
  by_cases hs3 : 20 < way.length
  · have hs3i : (20 : Int) < (way.length : Int) := by omega
    have gkN := kN.out.cell
    go_wp2_with fail
    go_ret
    exact ⟨rfl, kx.out⟩
  have hs3i : ¬ (20 : Int) < (way.length : Int) := by omega
  replace hs1 := Hd.mk hs1
  replace hs2 := Hd.mk hs2
  clear hs3
  have gkN := kN.out.cell
  go_wp2_with fail
  clear gkN
  refine Calls.mono (ref_right n.deep n (fun _ => True) _ _ (Nat.le_refl _) rn.out) ?_
  rintro e w4 ⟨rfl, hx⟩
  replace kx := Hd.mk (kx.out.trans hx)
  replace kN := Hd.mk (kN.out.ext hx)
  replace kX := Hd.mk (kX.out.ext hx)
  replace rn := Hd.mk (rn.out.ext hx)
  replace rx := Hd.mk (rx.out.ext hx)
  replace rw' := Hd.mk (rw'.out.ext hx)
  clear hx
  cases hri : rightT n with
  | false =>
    have gkN := kN.out.cell
    go_wp2_with fail
    go_ret
    exact ⟨rfl, kx.out⟩
  | true =>
  replace hri := Hd.mk hri
  have gkN := kN.out.cell
  go_wp2_with fail
  clear gkN
  refine Calls.mono (Calls.mono (ref_sorted n.deep n (fun _ => True) _ _ (Nat.le_refl _) hsn.out rn.out) (sort_was hri.out)) ?_
  rintro e w5 ⟨c9, rfl, hr9, hx⟩
  obtain ⟨Ks, ks, rfl, _⟩ := hr9.row
  simp only [cT] at hr9 ⊢
  have hxA := hx.trans (Ext.alloc w5 (.cells #[.string n.name, .string n.key, .int .i64 n.kind, .int .u64 n.num, .string n.text, .slice Ks n.kids.length ks] 54))
  replace kx := Hd.mk (kx.out.trans hxA)
  replace kN := Hd.mk (kN.out.ext hxA)
  replace kX := Hd.mk (kX.out.ext hxA)
  replace rn := Hd.mk (rn.out.ext hxA)
  replace rx := Hd.mk (rx.out.ext hxA)
  replace rw' := Hd.mk (rw'.out.ext hxA)
  have kS := Hd.mk (Blk.new w5 #[.string n.name, .string n.key, .int .i64 n.kind, .int .u64 n.num, .string n.text, .slice Ks n.kids.length ks] 54)
  replace hr9 := Hd.mk (hr9.ext (Ext.alloc w5 (.cells #[.string n.name, .string n.key, .int .i64 n.kind, .int .u64 n.num, .string n.text, .slice Ks n.kids.length ks] 54)))
  clear hx hxA
  have gkN := kN.out.cell
  go_wp2_with fail
  clear gkN
  generalize w5.heap.size = pS at *
  generalize w5.alloc _ = W5 at *
  have rs := hr9
  clear hr9
  have hlo := Hd.mk kx.out.size
  have lN := Hd.mk kN.out.lt
  have lS := Hd.mk kS.out.lt
  replace rn := Hd.mk (rn.out.mono (S' := fun b => b < W5.heap.size) (fun b hb _ => hb))
  replace rs := Hd.mk (rs.out.mono (S' := fun b => b < W5.heap.size) (fun b hb _ => hb))
  refine Calls.mono (Calls.mono (tree_get n way _ (fun _ => True) _ _ A ac rn.out rw'.out) get_rf) ?_
  rintro e w6 ⟨_, rfl, c9, rfl, hr9, hx⟩
  have m1 := Hd.mk hx.size
  obtain ⟨K1, k1c, rfl, _⟩ := hr9.row
  simp only [cT] at hr9 ⊢
  have hxA := hx.trans (Ext.alloc w6 (.cells #[.string ((getT n way).getD zeroT).name, .string ((getT n way).getD zeroT).key, .int .i64 ((getT n way).getD zeroT).kind, .int .u64 ((getT n way).getD zeroT).num, .string ((getT n way).getD zeroT).text, .slice K1 ((getT n way).getD zeroT).kids.length k1c] 54))
  replace kx := Hd.mk (kx.out.trans hxA)
  replace kN := Hd.mk (kN.out.ext hxA)
  replace kX := Hd.mk (kX.out.ext hxA)
  replace rn := Hd.mk (rn.out.ext hxA)
  replace rx := Hd.mk (rx.out.ext hxA)
  replace rw' := Hd.mk (rw'.out.ext hxA)
  replace kS := Hd.mk (kS.out.ext hxA)
  replace rs := Hd.mk (rs.out.ext hxA)
  have k1 := Hd.mk (Blk.new w6 #[.string ((getT n way).getD zeroT).name, .string ((getT n way).getD zeroT).key, .int .i64 ((getT n way).getD zeroT).kind, .int .u64 ((getT n way).getD zeroT).num, .string ((getT n way).getD zeroT).text, .slice K1 ((getT n way).getD zeroT).kids.length k1c] 54)
  replace hr9 := Hd.mk (hr9.ext (Ext.alloc w6 (.cells #[.string ((getT n way).getD zeroT).name, .string ((getT n way).getD zeroT).key, .int .i64 ((getT n way).getD zeroT).kind, .int .u64 ((getT n way).getD zeroT).num, .string ((getT n way).getD zeroT).text, .slice K1 ((getT n way).getD zeroT).kids.length k1c] 54)))
  clear hx hxA
  have gkN := kN.out.cell
  have gkX := kX.out.cell
  go_wp2_with fail
  clear gkN gkX
  generalize w6.heap.size = p1 at *
  generalize w6.alloc _ = W6 at *
  have r1 := hr9
  clear hr9
  have l1 := Hd.mk k1.out.lt
  refine Calls.mono (Calls.mono (tree_set n x way _ (fun _ => True) (fun _ => True) _ _ _ A ac rn.out rx.out rw'.out hri.out (by have := hs1.out; have := hs2.out; omega)) chg_rf) ?_
  rintro e w7 ⟨_, rfl, c9, rfl, hr9, hx⟩
  have m2 := Hd.mk hx.size
  obtain ⟨K2, k2c, rfl, _⟩ := hr9.row
  simp only [cT] at hr9 ⊢
  have hxA := hx.trans (Ext.alloc w7 (.cells #[.string (setR n way x).1.name, .string (setR n way x).1.key, .int .i64 (setR n way x).1.kind, .int .u64 (setR n way x).1.num, .string (setR n way x).1.text, .slice K2 (setR n way x).1.kids.length k2c] 54))
  replace kx := Hd.mk (kx.out.trans hxA)
  replace kN := Hd.mk (kN.out.ext hxA)
  replace kX := Hd.mk (kX.out.ext hxA)
  replace rn := Hd.mk (rn.out.ext hxA)
  replace rx := Hd.mk (rx.out.ext hxA)
  replace rw' := Hd.mk (rw'.out.ext hxA)
  replace kS := Hd.mk (kS.out.ext hxA)
  replace rs := Hd.mk (rs.out.ext hxA)
  replace k1 := Hd.mk (k1.out.ext hxA)
  replace r1 := Hd.mk (r1.out.ext hxA)
  have k2 := Hd.mk (Blk.new w7 #[.string (setR n way x).1.name, .string (setR n way x).1.key, .int .i64 (setR n way x).1.kind, .int .u64 (setR n way x).1.num, .string (setR n way x).1.text, .slice K2 (setR n way x).1.kids.length k2c] 54)
  replace hr9 := Hd.mk (hr9.ext (Ext.alloc w7 (.cells #[.string (setR n way x).1.name, .string (setR n way x).1.key, .int .i64 (setR n way x).1.kind, .int .u64 (setR n way x).1.num, .string (setR n way x).1.text, .slice K2 (setR n way x).1.kids.length k2c] 54)))
  clear hx hxA
  have gkN := kN.out.cell
  go_wp2_with fail
  clear gkN
  generalize w7.heap.size = p2 at *
  generalize w7.alloc _ = W7 at *
  have r2 := hr9
  clear hr9
  have l2 := Hd.mk k2.out.lt
  refine Calls.mono (Calls.mono (tree_cut n way _ (fun _ => True) _ _ A ac rn.out rw'.out (by have := hs1.out; have := hs2.out; omega)) chg_rf) ?_
  rintro e w8 ⟨_, rfl, c9, rfl, hr9, hx⟩
  have m3 := Hd.mk hx.size
  obtain ⟨K3, k3c, rfl, _⟩ := hr9.row
  simp only [cT] at hr9 ⊢
  have hxA := hx.trans (Ext.alloc w8 (.cells #[.string (cutR n way).1.name, .string (cutR n way).1.key, .int .i64 (cutR n way).1.kind, .int .u64 (cutR n way).1.num, .string (cutR n way).1.text, .slice K3 (cutR n way).1.kids.length k3c] 54))
  replace kx := Hd.mk (kx.out.trans hxA)
  replace kN := Hd.mk (kN.out.ext hxA)
  replace kX := Hd.mk (kX.out.ext hxA)
  replace rn := Hd.mk (rn.out.ext hxA)
  replace rx := Hd.mk (rx.out.ext hxA)
  replace rw' := Hd.mk (rw'.out.ext hxA)
  replace kS := Hd.mk (kS.out.ext hxA)
  replace rs := Hd.mk (rs.out.ext hxA)
  replace k1 := Hd.mk (k1.out.ext hxA)
  replace r1 := Hd.mk (r1.out.ext hxA)
  replace k2 := Hd.mk (k2.out.ext hxA)
  replace r2 := Hd.mk (r2.out.ext hxA)
  have k3 := Hd.mk (Blk.new w8 #[.string (cutR n way).1.name, .string (cutR n way).1.key, .int .i64 (cutR n way).1.kind, .int .u64 (cutR n way).1.num, .string (cutR n way).1.text, .slice K3 (cutR n way).1.kids.length k3c] 54)
  replace hr9 := Hd.mk (hr9.ext (Ext.alloc w8 (.cells #[.string (cutR n way).1.name, .string (cutR n way).1.key, .int .i64 (cutR n way).1.kind, .int .u64 (cutR n way).1.num, .string (cutR n way).1.text, .slice K3 (cutR n way).1.kids.length k3c] 54)))
  clear hx hxA
  have gk1 := k1.out.cell
  go_wp2_with fail
  clear gk1
  generalize w8.heap.size = p3 at *
  generalize w8.alloc _ = W8 at *
  have r3 := hr9
  clear hr9
  have l3 := Hd.mk k3.out.lt
  have hsz3 := Hd.mk (Nat.le_refl W8.heap.size)
  generalize (getT n way).getD zeroT = u1 at *
  generalize (setR n way x).1 = u2 at *
  generalize (cutR n way).1 = u3 at *
  clear kX rx rw'
  refine Calls.mono (over09 u1.deep (fun b => W5.heap.size ≤ b ∧ b < p1) _ _ _ _ _ _ _ _ _ (r1.out.shc (Nat.le_refl _)).1 (fun b hb => Nat.lt_trans hb.2 k1.out.lt) (r1.out.shc (Nat.le_refl _)).2) ?_
  rintro e w9 ⟨rfl, hT⟩
  replace kx := Hd.mk (show Ext w _ from Below.trans kx.out (hT.below kx.out.size (fun b hb h => (by have := hlo.out; have := lN.out; have := lS.out; have := m1.out; have := m2.out; have := m3.out; have := l1.out; have := l2.out; have := l3.out; omega))))
  replace kN := Hd.mk (kN.out.touch hT (fun h => (by have := hlo.out; have := lN.out; have := lS.out; have := m1.out; have := m2.out; have := m3.out; have := l1.out; have := l2.out; have := l3.out; omega)))
  replace kS := Hd.mk (kS.out.touch hT (fun h => (by have := hlo.out; have := lN.out; have := lS.out; have := m1.out; have := m2.out; have := m3.out; have := l1.out; have := l2.out; have := l3.out; omega)))
  replace k1 := Hd.mk (k1.out.touch hT (fun h => (by have := hlo.out; have := lN.out; have := lS.out; have := m1.out; have := m2.out; have := m3.out; have := l1.out; have := l2.out; have := l3.out; omega)))
  replace k2 := Hd.mk (k2.out.touch hT (fun h => (by have := hlo.out; have := lN.out; have := lS.out; have := m1.out; have := m2.out; have := m3.out; have := l1.out; have := l2.out; have := l3.out; omega)))
  replace k3 := Hd.mk (k3.out.touch hT (fun h => (by have := hlo.out; have := lN.out; have := lS.out; have := m1.out; have := m2.out; have := m3.out; have := l1.out; have := l2.out; have := l3.out; omega)))
  replace rn := Hd.mk (rn.out.touch hT (fun b hb h => (by have := hlo.out; have := lN.out; have := lS.out; have := m1.out; have := m2.out; have := m3.out; have := l1.out; have := l2.out; have := l3.out; omega)))
  replace rs := Hd.mk (rs.out.touch hT (fun b hb h => (by have := hlo.out; have := lN.out; have := lS.out; have := m1.out; have := m2.out; have := m3.out; have := l1.out; have := l2.out; have := l3.out; omega)))
  replace r2 := Hd.mk (r2.out.keep (fun b hlt hb => hT.block b hlt (fun h => (by have := hlo.out; have := lN.out; have := lS.out; have := m1.out; have := m2.out; have := m3.out; have := l1.out; have := l2.out; have := l3.out; omega))))
  replace r3 := Hd.mk (r3.out.keep (fun b hlt hb => hT.block b hlt (fun h => (by have := hlo.out; have := lN.out; have := lS.out; have := m1.out; have := m2.out; have := m3.out; have := l1.out; have := l2.out; have := l3.out; omega))))
  replace hsz3 := Hd.mk (Nat.le_trans hsz3.out hT.size)
  clear hT
  clear r1 k1
  have gk2 := k2.out.cell
  go_wp2_with fail
  clear gk2
  refine Calls.mono (over09 u2.deep (fun b => W6.heap.size ≤ b ∧ b < p2) _ _ _ _ _ _ _ _ _ (r2.out.shc (Nat.le_refl _)).1 (fun b hb => Nat.lt_trans hb.2 k2.out.lt) (r2.out.shc (Nat.le_refl _)).2) ?_
  rintro e w10 ⟨rfl, hT⟩
  replace kx := Hd.mk (show Ext w _ from Below.trans kx.out (hT.below kx.out.size (fun b hb h => (by have := hlo.out; have := lN.out; have := lS.out; have := m1.out; have := m2.out; have := m3.out; have := l1.out; have := l2.out; have := l3.out; omega))))
  replace kN := Hd.mk (kN.out.touch hT (fun h => (by have := hlo.out; have := lN.out; have := lS.out; have := m1.out; have := m2.out; have := m3.out; have := l1.out; have := l2.out; have := l3.out; omega)))
  replace kS := Hd.mk (kS.out.touch hT (fun h => (by have := hlo.out; have := lN.out; have := lS.out; have := m1.out; have := m2.out; have := m3.out; have := l1.out; have := l2.out; have := l3.out; omega)))
  replace k2 := Hd.mk (k2.out.touch hT (fun h => (by have := hlo.out; have := lN.out; have := lS.out; have := m1.out; have := m2.out; have := m3.out; have := l1.out; have := l2.out; have := l3.out; omega)))
  replace k3 := Hd.mk (k3.out.touch hT (fun h => (by have := hlo.out; have := lN.out; have := lS.out; have := m1.out; have := m2.out; have := m3.out; have := l1.out; have := l2.out; have := l3.out; omega)))
  replace rn := Hd.mk (rn.out.touch hT (fun b hb h => (by have := hlo.out; have := lN.out; have := lS.out; have := m1.out; have := m2.out; have := m3.out; have := l1.out; have := l2.out; have := l3.out; omega)))
  replace rs := Hd.mk (rs.out.touch hT (fun b hb h => (by have := hlo.out; have := lN.out; have := lS.out; have := m1.out; have := m2.out; have := m3.out; have := l1.out; have := l2.out; have := l3.out; omega)))
  replace r3 := Hd.mk (r3.out.keep (fun b hlt hb => hT.block b hlt (fun h => (by have := hlo.out; have := lN.out; have := lS.out; have := m1.out; have := m2.out; have := m3.out; have := l1.out; have := l2.out; have := l3.out; omega))))
  replace hsz3 := Hd.mk (Nat.le_trans hsz3.out hT.size)
  clear hT
  clear r2 k2
  have gk3 := k3.out.cell
  go_wp2_with fail
  clear gk3
  refine Calls.mono (over09 u3.deep (fun b => W7.heap.size ≤ b ∧ b < p3) _ _ _ _ _ _ _ _ _ (r3.out.shc (Nat.le_refl _)).1 (fun b hb => Nat.lt_trans hb.2 k3.out.lt) (r3.out.shc (Nat.le_refl _)).2) ?_
  rintro e w11 ⟨rfl, hT⟩
  replace kx := Hd.mk (show Ext w _ from Below.trans kx.out (hT.below kx.out.size (fun b hb h => (by have := hlo.out; have := lN.out; have := lS.out; have := m1.out; have := m2.out; have := m3.out; have := l1.out; have := l2.out; have := l3.out; omega))))
  replace kN := Hd.mk (kN.out.touch hT (fun h => (by have := hlo.out; have := lN.out; have := lS.out; have := m1.out; have := m2.out; have := m3.out; have := l1.out; have := l2.out; have := l3.out; omega)))
  replace kS := Hd.mk (kS.out.touch hT (fun h => (by have := hlo.out; have := lN.out; have := lS.out; have := m1.out; have := m2.out; have := m3.out; have := l1.out; have := l2.out; have := l3.out; omega)))
  replace k3 := Hd.mk (k3.out.touch hT (fun h => (by have := hlo.out; have := lN.out; have := lS.out; have := m1.out; have := m2.out; have := m3.out; have := l1.out; have := l2.out; have := l3.out; omega)))
  replace rn := Hd.mk (rn.out.touch hT (fun b hb h => (by have := hlo.out; have := lN.out; have := lS.out; have := m1.out; have := m2.out; have := m3.out; have := l1.out; have := l2.out; have := l3.out; omega)))
  replace rs := Hd.mk (rs.out.touch hT (fun b hb h => (by have := hlo.out; have := lN.out; have := lS.out; have := m1.out; have := m2.out; have := m3.out; have := l1.out; have := l2.out; have := l3.out; omega)))
  replace hsz3 := Hd.mk (Nat.le_trans hsz3.out hT.size)
  clear hT
  clear r3 k3
  have gkN := kN.out.cell
  go_wp2_with fail
  clear gkN
  have lV := Hd.mk (Nat.lt_of_lt_of_le l3.out (show W8.heap.size ≤ w11.heap.size from hsz3.out))
  refine Calls.mono (Calls.mono (tree_sortedF 300 (by decide) (fun _ => sym_ok 300 (by decide)) n.deep n _ _ _ (Nat.le_refl _) hs1.out rn.out) (sort_rf hri.out)) ?_
  rintro e w12 ⟨c9, rfl, hr9, hx⟩
  obtain ⟨K4, k4c, rfl, _⟩ := RT.row hr9
  simp only [cT] at hr9 ⊢
  have hr4 := Hd.mk hr9
  clear hr9
  replace kx := Hd.mk (kx.out.trans hx)
  replace kN := Hd.mk (kN.out.ext hx)
  replace rn := Hd.mk (rn.out.ext hx)
  replace kS := Hd.mk (kS.out.ext hx)
  replace rs := Hd.mk (rs.out.ext hx)
  replace hsz3 := Hd.mk (Nat.le_trans hsz3.out hx.size)
  clear hx
  go_wp2_with fail
  refine Calls.mono (over09 n.deep (fun b => w11.heap.size ≤ b ∧ b < w12.heap.size) _ _ _ _ _ _ _ _ _ (hr4.out.shc (Nat.le_refl _)).1 (fun b hb => hb.2) (hr4.out.shc (Nat.le_refl _)).2) ?_
  rintro e w13 ⟨rfl, hT⟩
  replace kx := Hd.mk (show Ext w _ from Below.trans kx.out (hT.below kx.out.size (fun b hb h => (by have := hlo.out; have := lN.out; have := lS.out; have := m1.out; have := m2.out; have := m3.out; have := l1.out; have := l2.out; have := lV.out; omega))))
  replace kN := Hd.mk (kN.out.touch hT (fun h => (by have := hlo.out; have := lN.out; have := lS.out; have := m1.out; have := m2.out; have := m3.out; have := l1.out; have := l2.out; have := lV.out; omega)))
  replace kS := Hd.mk (kS.out.touch hT (fun h => (by have := hlo.out; have := lN.out; have := lS.out; have := m1.out; have := m2.out; have := m3.out; have := l1.out; have := l2.out; have := lV.out; omega)))
  replace rn := Hd.mk (rn.out.touch hT (fun b hb h => (by have := hlo.out; have := lN.out; have := lS.out; have := m1.out; have := m2.out; have := m3.out; have := l1.out; have := l2.out; have := lV.out; omega)))
  replace rs := Hd.mk (rs.out.touch hT (fun b hb h => (by have := hlo.out; have := lN.out; have := lS.out; have := m1.out; have := m2.out; have := m3.out; have := l1.out; have := l2.out; have := lV.out; omega)))
  replace hsz3 := Hd.mk (Nat.le_trans hsz3.out hT.size)
  clear hT
  clear hr4
  have gkN := kN.out.cell
  have gkS := kS.out.cell
  go_wp2_with fail
  clear gkN gkS
  have hsm := ref_same n.deep n n _ _ _ _ (Nat.le_refl _) rs.out rn.out
  rw [sameT_rfl] at hsm
  refine Calls.mono (hsm) ?_
  rintro e w14 ⟨rfl, hx⟩
  replace kx := Hd.mk (kx.out.trans hx)
  replace kN := Hd.mk (kN.out.ext hx)
  replace rn := Hd.mk (rn.out.ext hx)
  replace kS := Hd.mk (kS.out.ext hx)
  replace rs := Hd.mk (rs.out.ext hx)
  clear hx
  have gkN := kN.out.cell
  go_wp2_with fail
  clear gkN
  clear hsm
  have hrg := tree_right n.deep n _ _ _ (Nat.le_refl _) rn.out
  rw [hri.out] at hrg
  refine Calls.mono (hrg) ?_
  rintro e w15 ⟨rfl, hx⟩
  replace kx := Hd.mk (kx.out.trans hx)
  replace kN := Hd.mk (kN.out.ext hx)
  replace rn := Hd.mk (rn.out.ext hx)
  replace kS := Hd.mk (kS.out.ext hx)
  replace rs := Hd.mk (rs.out.ext hx)
  clear hx
  go_wp2_with fail
  clear hrg
  go_ret
  exact ⟨rfl, kx.out⟩
end Go.Proofs.Ytgkgedjmnbjalaa

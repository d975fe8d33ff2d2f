/- TreeOwn: the law holds for every input of bulk at most 1048576, and the input reads as it did.
   Conditions: none. -/
import Derived.Test.YtgkgedjmnbjalaaRows
import Derived.Test.YtgkgedjmnbjalaaToC
import Derived.Test.YtgkgedjmnbjalaaToA
import Derived.Test.YtgkgedjmnbjalaaToM
import Derived.WalkKit
import Derived.ProofKit
import Derived.OpenShut
import Derived.ShutString
import Derived.ChangeOld
import Derived.Below
import Derived.SizedLaws
import Derived.SliceStrings
import Derived.JoinedCond
namespace Go.Proofs.Ytgkgedjmnbjalaa.treeOwnUpto
open Go.ChangeShapes Go.WideShapes Go.ChangeAt Go.RowKit
open Go.ChangeMaps (open_string shut_string)
set_option linter.unusedVariables false
set_option linter.unusedSimpArgs false
theorem own : ownKnob Try.prog.godebug = none := by kernel_rfl
theorem laidOut : laidOutB Try.prog = true := by kernel_rfl
set_option maxRecDepth 100000 in
theorem lifted (os : Os) (started : os.Started) (H : Type) (enc : TypeId × Value → H) (F : Stop.Interp) :
    ReturnsInHanded {} Try.checked os 19 .any ((Rows.OpenSpec.upto Rows.treeOwnSpec).pre6 enc Try.prog Try.f19 Rows.treeOwnUptoRow.domain false) (((Rows.OpenSpec.upto Rows.treeOwnSpec).at F).post enc Try.prog Try.f19 false true false false) := by
  refine returnsInHanded_of_cond (C := Try.checked) (s := Rows.OpenSpec.upto Rows.treeOwnSpec) (k := Rows.uptoSmall) rfl own started (by kernel_rfl) Try.func19
    (OpenSpec.witness (enc := enc) (C := Try.checked) (s := Rows.OpenSpec.upto Rows.treeOwnSpec) (k := Rows.uptoSmall) rfl false ⟨#[], #[.agg #[.string ByteArray.empty, .string ByteArray.empty, .int .i64 0, .int .u64 0, .string ByteArray.empty, .slice none 0 0], .slice none 0 0, .agg #[.string ByteArray.empty, .string ByteArray.empty, .int .i64 0, .int .u64 0, .string ByteArray.empty, .slice none 0 0]], []⟩ 8 (by kernel_rfl) (by kernel_rfl) (by kernel_rfl)
      (x := ([.agg [.lit (.string []), .lit (.string []), .agg [.lit (.int .i64 0), .lit (.int .u64 0), .lit (.string [])], .nil], .nil, .agg [.lit (.string []), .lit (.string []), .agg [.lit (.int .i64 0), .lit (.int .u64 0), .lit (.string [])], .nil]], [], [])) (by kernel_rfl) rfl (by kernel_rfl)) ?_
  intro W base args ds gs before hval0 hW hcnd hk _
  have hval : ∀ (j : Nat) t v, Try.f19.params[j]? = some t → args[j]? = some v → Value.okWide Try.prog W .any base t v := hval0
  have hW' := hW
  obtain ⟨p, q, hA0, hV, rfl, hfz, hnd⟩ := hW
  have hA : DataW.TrodAll enc Try.prog W 0 (fun _ => true) true Try.f19.params.toList args.toList ds p := hA0
  rw [Try.params19] at hA hval
  obtain ⟨v0, vs0, d0, ds0, p0, q0, hargs, rfl, rfl, h0, r0⟩ := trodAll_cons hA
  obtain ⟨v1, vs1, d1, ds1, p1, q1, rfl, rfl, rfl, h1, r1⟩ := trodAll_cons r0
  obtain ⟨v2, vs2, d2, ds2, p2, q2, rfl, rfl, rfl, h2, r2⟩ := trodAll_cons r1
  obtain ⟨rfl, rfl, rfl⟩ := trodAll_nil r2
  obtain rfl : args = #[v0, v1, v2] := by cases args; simp_all
  obtain ⟨rfl, rfl⟩ := trodVars_none hV
  have hbulk := bulks.bound hk
  simp only [List.append_nil, Rows.uptoBulkAll] at hbulk
  obtain ⟨cs0, rfl, _⟩ := okWide_struct Try.underlying54 (hval 0 54 v0 rfl rfl)
  have k0 := h0
  have lt0 : ∀ x ∈ p0, x.block < W.heap.size := by obtain ⟨m, hm⟩ := k0; exact DataW.trod_lt m _ _ _ hm
  obtain ⟨t0, w0, z0⟩ : ∃ t : T, RT (fun _ => True) W t cs0.toList ∧ t.size ≤ 1048576 := by
    obtain ⟨fuel, hf⟩ := h0
    obtain ⟨t, h1, h2⟩ := node_open fuel _ _ hf (show Rows.uptoBulk d0 ≤ 1048576 by omega)
    have h2 : t.size ≤ Rows.uptoBulk d0 := h2
    exact ⟨t, h1, by omega⟩
  obtain ⟨a1, len1, cap1, rfl⟩ := okWide_slice Try.underlying59 (hval 1 59 v1 rfl rfl)
  have k1 := h1
  have lt1 : ∀ x ∈ p1, x.block < W.heap.size := by obtain ⟨m, hm⟩ := k1; exact DataW.trod_lt m _ _ _ hm
  obtain ⟨A1, c1, l1, e1, w1⟩ : ∃ (A : Option Addr) (c : Nat) (l : List Step), Value.slice a1 len1 cap1 = .slice A l.length c ∧ WRow (fun _ => True) W A l c := by
    obtain ⟨fuel, hf⟩ := h1
    obtain ⟨A, c, l, g1, g2⟩ := way_open hf (show Rows.uptoBulk d1 ≤ 1048576 by omega)
    exact ⟨A, c, l, by simpa [Value.cells] using g1, g2⟩
  simp only [Value.slice.injEq] at e1
  obtain ⟨rfl, rfl, rfl⟩ := e1
  obtain ⟨cs2, rfl, _⟩ := okWide_struct Try.underlying54 (hval 2 54 v2 rfl rfl)
  have k2 := h2
  have lt2 : ∀ x ∈ p2, x.block < W.heap.size := by obtain ⟨m, hm⟩ := k2; exact DataW.trod_lt m _ _ _ hm
  obtain ⟨t2, w2, z2⟩ : ∃ t : T, RT (fun _ => True) W t cs2.toList ∧ t.size ≤ 1048576 := by
    obtain ⟨fuel, hf⟩ := h2
    obtain ⟨t, h1, h2⟩ := node_open fuel _ _ hf (show Rows.uptoBulk d2 ≤ 1048576 by omega)
    have h2 : t.size ≤ Rows.uptoBulk d2 := h2
    exact ⟨t, h1, by omega⟩
  clear hA0 hval0
  refine (own09_walk t0 t2 l1 W _ _ _ _ w0 w1 w2 z0 z2).mono fun e W' ⟨he, bel⟩ => ?_
  subst he
  exact ⟨_, rfl, _, _, _, [], _, [], hW', trodAll_mk1 (shut_bool Try.underlying4 _), (trodAll_cons_mk (Below.trod laidOut (by kernel_rfl) (of_decide_eq_true (by kernel_rfl)) k0 bel lt0) (trodAll_cons_mk (Below.trod laidOut (by kernel_rfl) (of_decide_eq_true (by kernel_rfl)) k1 bel lt1) (trodAll_cons_mk (Below.trod laidOut (by kernel_rfl) (of_decide_eq_true (by kernel_rfl)) k2 bel lt2) trodAll_mk0))), rfl, bel.frame _, fun h => by cases h⟩
set_option maxHeartbeats 4000000 in
theorem facts : joinedFacts Try.prog 19 Try.f19 (Rows.OpenSpec.upto Rows.treeOwnSpec).bare Rows.treeOwnUptoRow = true :=
  joined_of (by as_aux_lemma => kernel_rfl) (by as_aux_lemma => kernel_rfl) (by as_aux_lemma => kernel_rfl) (by as_aux_lemma => kernel_rfl) (by as_aux_lemma => kernel_rfl) (by as_aux_lemma => kernel_rfl) (by as_aux_lemma => kernel_rfl) (by as_aux_lemma => kernel_rfl) may_enter (by rw [lifts_final]; rfl) (by rw [make_cut]; rfl) (by as_aux_lemma => kernel_rfl) (by as_aux_lemma => kernel_rfl)
set_option maxRecDepth 100000 in
set_option maxHeartbeats 4000000 in
theorem over : Rows.treeOwnUptoRow.holds Try.pinned (Rows.OpenSpec.upto Rows.treeOwnSpec) :=
  OpenClaim.holds_of_cond 19 Try.f19 rfl rfl rfl rfl rfl rfl rfl ⟨rfl, rfl, rfl, rfl, rfl⟩ rfl rfl rfl rfl rfl (by as_aux_lemma => kernel_rfl) Try.func19
    facts
    (of_decide_eq_true (by kernel_rfl)) (by unfold Func.isWrapper; rw [if_neg (of_decide_eq_false (by kernel_rfl))]; exact ⟨rfl, rfl⟩)
    (fun os started H enc _ F => lifted os started H enc F)
theorem proved : Rows.TreeOwnUptoSaid := over
#print axioms proved
end Go.Proofs.Ytgkgedjmnbjalaa.treeOwnUpto
namespace Go.Proofs.Ytgkgedjmnbjalaa
theorem treeOwn_upto : Rows.TreeOwnUptoSaid := treeOwnUpto.proved
end Go.Proofs.Ytgkgedjmnbjalaa

/- PatchFronts: the law holds for every input of bulk at most 1048576, and the input reads as it did.
   Conditions: none. -/
import Derived.Test.YtgkgedjmnbjalaaRows
import Derived.Test.YtgkgedjmnbjalaaPqB
import Derived.Test.YtgkgedjmnbjalaaPqA
import Derived.Test.YtgkgedjmnbjalaaPqM
import Derived.WalkKit
import Derived.ProofKit
import Derived.OpenShut
import Derived.ShutString
import Derived.ChangeOld
import Derived.Below
import Derived.SizedLaws
import Derived.SliceStrings
import Derived.JoinedCond
namespace Go.Proofs.Ytgkgedjmnbjalaa.patchFrontsUpto
open Go.ChangeShapes Go.WideShapes Go.ChangeAt Go.RowKit
open Go.ChangeMaps (open_string shut_string)
set_option linter.unusedVariables false
set_option linter.unusedSimpArgs false
theorem own : ownKnob Try.prog.godebug = none := by kernel_rfl
theorem laidOut : laidOutB Try.prog = true := by kernel_rfl
set_option maxRecDepth 100000 in
theorem lifted (os : Os) (started : os.Started) (H : Type) (enc : TypeId × Value → H) (F : Stop.Interp) :
    ReturnsInHanded {} Try.checked os 13 .any ((Rows.OpenSpec.upto Rows.patchFrontsSpec).pre6 enc Try.prog Try.f13 Rows.patchFrontsUptoRow.domain false) (((Rows.OpenSpec.upto Rows.patchFrontsSpec).at F).post enc Try.prog Try.f13 false true false false) := by
  refine returnsInHanded_of_cond (C := Try.checked) (s := Rows.OpenSpec.upto Rows.patchFrontsSpec) (k := Rows.uptoSmall) rfl own started (by kernel_rfl) Try.func13
    (OpenSpec.witness (enc := enc) (C := Try.checked) (s := Rows.OpenSpec.upto Rows.patchFrontsSpec) (k := Rows.uptoSmall) rfl false ⟨#[], #[.agg #[.string ByteArray.empty, .string ByteArray.empty, .int .i64 0, .int .u64 0, .string ByteArray.empty, .slice none 0 0], .agg #[.string ByteArray.empty, .string ByteArray.empty, .int .i64 0, .int .u64 0, .string ByteArray.empty, .slice none 0 0], .int .u8 0], []⟩ 8 (by kernel_rfl) (by kernel_rfl) (by kernel_rfl)
      (x := ([.agg [.lit (.string []), .lit (.string []), .agg [.lit (.int .i64 0), .lit (.int .u64 0), .lit (.string [])], .nil], .agg [.lit (.string []), .lit (.string []), .agg [.lit (.int .i64 0), .lit (.int .u64 0), .lit (.string [])], .nil], .lit (.int .u8 0)], [], [])) (by kernel_rfl) rfl (by kernel_rfl)) ?_
  intro W base args ds gs before hval0 hW hcnd hk _
  have hval : ∀ (j : Nat) t v, Try.f13.params[j]? = some t → args[j]? = some v → Value.okWide Try.prog W .any base t v := hval0
  have hW' := hW
  obtain ⟨p, q, hA0, hV, rfl, hfz, hnd⟩ := hW
  have hA : DataW.TrodAll enc Try.prog W 0 (fun _ => true) true Try.f13.params.toList args.toList ds p := hA0
  rw [Try.params13] at hA hval
  obtain ⟨v0, vs0, d0, ds0, p0, q0, hargs, rfl, rfl, h0, r0⟩ := trodAll_cons hA
  obtain ⟨v1, vs1, d1, ds1, p1, q1, rfl, rfl, rfl, h1, r1⟩ := trodAll_cons r0
  obtain ⟨v2, vs2, d2, ds2, p2, q2, rfl, rfl, rfl, h2, r2⟩ := trodAll_cons r1
  obtain ⟨rfl, rfl, rfl⟩ := trodAll_nil r2
  obtain rfl : args = #[v0, v1, v2] := by cases args; simp_all
  obtain ⟨rfl, rfl⟩ := trodVars_none hV
  have hbulk := bulks.bound hk
  simp only [List.append_nil, Rows.uptoBulkAll] at hbulk
  obtain ⟨cs0, rfl, _⟩ := okWide_struct Try.underlying54 (hval 0 54 v0 rfl rfl)
  have k0 := h0
  have lt0 : ∀ x ∈ p0, x.block < W.heap.size := by obtain ⟨m, hm⟩ := k0; exact DataW.trod_lt m _ _ _ hm
  obtain ⟨t0, w0, z0⟩ : ∃ t : T, RT (fun _ => True) W t cs0.toList ∧ t.size ≤ 1048576 := by
    obtain ⟨fuel, hf⟩ := h0
    obtain ⟨t, h1, h2⟩ := node_open fuel _ _ hf (show Rows.uptoBulk d0 ≤ 1048576 by omega)
    have h2 : t.size ≤ Rows.uptoBulk d0 := h2
    exact ⟨t, h1, by omega⟩
  obtain ⟨cs1, rfl, _⟩ := okWide_struct Try.underlying54 (hval 1 54 v1 rfl rfl)
  have k1 := h1
  have lt1 : ∀ x ∈ p1, x.block < W.heap.size := by obtain ⟨m, hm⟩ := k1; exact DataW.trod_lt m _ _ _ hm
  obtain ⟨t1, w1, z1⟩ : ∃ t : T, RT (fun _ => True) W t cs1.toList ∧ t.size ≤ 1048576 := by
    obtain ⟨fuel, hf⟩ := h1
    obtain ⟨t, h1, h2⟩ := node_open fuel _ _ hf (show Rows.uptoBulk d1 ≤ 1048576 by omega)
    have h2 : t.size ≤ Rows.uptoBulk d1 := h2
    exact ⟨t, h1, by omega⟩
  obtain ⟨a2, rfl, rfl, rfl, w2⟩ := open_int Try.underlying5 (hval 2 5 v2 rfl rfl) h2
  obtain ⟨q2n, rfl, hq2⟩ : ∃ q : Nat, a2 = (q : Int) ∧ q < 256 := by
    have h9 : 0 ≤ a2 ∧ a2 < 256 := by simp [Lit.wf, IntKind.min, IntKind.max, IntKind.signed, IntKind.bits] at w2; omega
    exact ⟨a2.toNat, by omega, by omega⟩
  clear hA0 hval0
  refine (fronts17_walk t0 t1 W _ _ q2n hq2 w0 w1 z0 z1).mono fun e W' ⟨he, bel⟩ => ?_
  subst he
  exact ⟨_, rfl, _, _, _, [], _, [], hW', trodAll_mk1 (shut_bool Try.underlying4 _), (trodAll_cons_mk (Below.trod laidOut (by kernel_rfl) (of_decide_eq_true (by kernel_rfl)) k0 bel lt0) (trodAll_cons_mk (Below.trod laidOut (by kernel_rfl) (of_decide_eq_true (by kernel_rfl)) k1 bel lt1) (trodAll_cons_mk (shut_int Try.underlying5 w2) trodAll_mk0))), rfl, bel.frame _, fun h => by cases h⟩
set_option maxHeartbeats 4000000 in
theorem facts : joinedFacts Try.prog 13 Try.f13 (Rows.OpenSpec.upto Rows.patchFrontsSpec).bare Rows.patchFrontsUptoRow = true :=
  joined_of (by as_aux_lemma => kernel_rfl) (by as_aux_lemma => kernel_rfl) (by as_aux_lemma => kernel_rfl) (by as_aux_lemma => kernel_rfl) (by as_aux_lemma => kernel_rfl) (by as_aux_lemma => kernel_rfl) (by as_aux_lemma => kernel_rfl) (by as_aux_lemma => kernel_rfl) may_enter (by rw [lifts_final]; rfl) (by rw [make_cut]; rfl) (by as_aux_lemma => kernel_rfl) (by as_aux_lemma => kernel_rfl)
set_option maxRecDepth 100000 in
set_option maxHeartbeats 4000000 in
theorem over : Rows.patchFrontsUptoRow.holds Try.pinned (Rows.OpenSpec.upto Rows.patchFrontsSpec) :=
  OpenClaim.holds_of_cond 13 Try.f13 rfl rfl rfl rfl rfl rfl rfl ⟨rfl, rfl, rfl, rfl, rfl⟩ rfl rfl rfl rfl rfl (by as_aux_lemma => kernel_rfl) Try.func13
    facts
    (of_decide_eq_true (by kernel_rfl)) (by unfold Func.isWrapper; rw [if_neg (of_decide_eq_false (by kernel_rfl))]; exact ⟨rfl, rfl⟩)
    (fun os started H enc _ F => lifted os started H enc F)
theorem proved : Rows.PatchFrontsUptoSaid := over
#print axioms proved
end Go.Proofs.Ytgkgedjmnbjalaa.patchFrontsUpto
namespace Go.Proofs.Ytgkgedjmnbjalaa
theorem patchFronts_upto : Rows.PatchFrontsUptoSaid := patchFrontsUpto.proved
end Go.Proofs.Ytgkgedjmnbjalaa

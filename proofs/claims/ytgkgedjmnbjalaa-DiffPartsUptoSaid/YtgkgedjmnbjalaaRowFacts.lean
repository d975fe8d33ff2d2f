/- Small facts on the whole program that each law's row asks for, each apart, so that no one of them outgrows the memory.
   Conditions: none. -/
import Derived.Test.YtgkgedjmnbjalaaRows
import Derived.WalkKit
import Derived.ProofKit
import Derived.JoinedOf
namespace Go.Proofs.Ytgkgedjmnbjalaa
set_option maxRecDepth 100000 in
theorem ord_list : ∃ l : List Char, Try.prog.initOrder = String.ofList l ∧ (behindMainWord (wordsSigns l)).head? = some "cut".toList := ⟨_, rfl, by kernel_rfl⟩
theorem ord_words : ∃ r, behindMainWord (wordsSigns Try.prog.initOrder.toList) = "cut".toList :: r := by
  obtain ⟨l, h, hl⟩ := ord_list
  rw [h, String.toList_ofList]
  generalize behindMainWord (wordsSigns l) = ws at hl
  cases ws with
  | nil => cases hl
  | cons a r => cases hl; exact ⟨r, rfl⟩
theorem lays_no : Try.prog.laysLater = false := by kernel_rfl
theorem bears_no : Try.prog.bearsReflect = false := by kernel_rfl
theorem door_yes : Try.prog.doorFits [] = true := by kernel_rfl
theorem strip1 (r : List (List Char)) : (stripLifts liftWords ("cut".toList :: r)).1 = [] := by kernel_rfl
theorem strip2 (r : List (List Char)) : (stripLifts liftWords ("cut".toList :: r)).2.head? = some "cut".toList := by kernel_rfl
theorem may_of (P : Program) (r : List (List Char)) (h : behindMainWord (wordsSigns P.initOrder.toList) = "cut".toList :: r) (h1 : P.laysLater = false) (h2 : P.bearsReflect = false) (h3 : P.doorFits [] = true) : P.mayEnter = true := by
  unfold Program.mayEnter
  rw [h]
  show (_ || _ || _) = true
  rw [Bool.or_eq_true]
  right
  rw [strip1, strip2, h1, h2, h3]
  simp
theorem lifts_of (P : Program) (r : List (List Char)) (h : behindMainWord (wordsSigns P.initOrder.toList) = "cut".toList :: r) : P.headLifts = [] := by
  unfold Program.headLifts
  simp only [h, strip1, strip2]
  simp
theorem final_of (P : Program) (r : List (List Char)) (h : behindMainWord (wordsSigns P.initOrder.toList) = "cut".toList :: r) : P.liftsFinal = false := by
  unfold Program.liftsFinal
  rw [lifts_of P r h, h]
  simp
theorem make_of (P : Program) (r : List (List Char)) (h : behindMainWord (wordsSigns P.initOrder.toList) = "cut".toList :: r) : P.make = some .cut := by
  unfold Program.make
  rw [h]
  kernel_rfl
theorem may_enter : Try.prog.mayEnter = true := by
  obtain ⟨r, h⟩ := ord_words
  exact may_of _ r h lays_no bears_no door_yes
theorem lifts_final : Try.prog.liftsFinal = false := by
  obtain ⟨r, h⟩ := ord_words
  exact final_of _ r h
theorem make_cut : Try.prog.make = some .cut := by
  obtain ⟨r, h⟩ := ord_words
  exact make_of _ r h

theorem u64_of {n : Int} (h : (Lit.int .u64 n).wf = true) : 0 ≤ n ∧ n < 18446744073709551616 := by
  simp [Lit.wf, IntKind.min, IntKind.max, IntKind.signed, IntKind.bits] at h
  omega

/-- The closed facts of a row, out of their parts. -/
theorem joined_of {p : Program} {f : FuncId} {fn : Func} {s : ChangeSpec} {c : OpenClaim} (h0 : (c.wf (OpenSpec.ofChange s) && laidOutB p && mapsRowed p &&
  fn.params.all (p.readableRec ·) && namedTie p c.named s.vars &&
  (c.stops == []) && (p.stops == []) && (c.knobs == []) && (p.stopKnobs == [])) = true) (h1 : (c.inPlace == p.inPlace f) = true) (h2 : (c.unfollowed == p.unfollowed f) = true) (h3 : (c.recurses == p.recurses f) = true) (h4 : (c.named == p.varsNamed f) = true)
  (h5 : ((c.maps == (fn.params.toList ++ s.plain.varTypes p).any (p.mapsRec ·)) && (c.ifaces == (fn.params.toList ++ s.plain.varTypes p).any (p.ifacesRec ·)) && (c.mapsOut == p.mapsAmong fn.resultTypes.toList)) = true)
  (h6 : ((c.loops == (fn.params.toList ++ s.plain.varTypes p).any (p.loopsFrom ·)) && (c.wideKeys == (fn.params.toList ++ s.plain.varTypes p ++ fn.resultTypes.toList).any (p.wideKeysFrom ·))) = true)
  (h7 : (s.vars.all (p.varReadable ·) && fn.resultTypes.all (fun t => p.readableRec t && decide (t < p.types.size)) && (c.ifacesOut == fn.resultTypes.toList.any (p.ifacesRec ·)) && (c.loopsOut == fn.resultTypes.toList.any (p.loopsFrom ·)) && (c.plainKeys == p.plainKeys) && c.shortTexts.isNone && p.stopsHeard) = true)
  (h8 : p.mayEnter = true) (h9 : (c.lifted == p.liftsFinal) = true) (h10 : (p.make == some c.make) = true)
  (h11 : ((c.kinds == (if c.domain.isEmpty then [] else fn.params.toList.map fun t => match p.underlying t with | some (.int k) => some k | _ => none)) && (c.pinned == c.pinnedBy)) = true)
  (h12 : ((c.veiled == (fn.params.toList ++ s.plain.varTypes p ++ fn.resultTypes.toList).any (p.veiledRec ·)) && c.veiledFits p fn.params.toList (fn.params.toList ++ s.plain.varTypes p ++ fn.resultTypes.toList)) = true) : joinedFacts p f fn s c = true := by
  simp only [Bool.and_eq_true] at *
  unfold joinedFacts
  simp only [Bool.and_eq_true]
  obtain ⟨⟨⟨⟨⟨⟨⟨⟨a1, a2⟩, a3⟩, a4⟩, a5⟩, a6⟩, a7⟩, a8⟩, a9⟩ := h0
  obtain ⟨⟨b1, b2⟩, b3⟩ := h5
  obtain ⟨c1, c2⟩ := h6
  obtain ⟨⟨⟨⟨⟨⟨d1, d2⟩, d3⟩, d4⟩, d5⟩, d6⟩, d7⟩ := h7
  obtain ⟨e1, e2⟩ := h11
  obtain ⟨f1, f2⟩ := h12
  exact ⟨⟨⟨⟨⟨⟨⟨⟨⟨⟨⟨⟨⟨⟨⟨⟨⟨⟨⟨⟨⟨⟨⟨⟨⟨⟨⟨⟨⟨⟨⟨a1, a2⟩, a3⟩, a4⟩, a5⟩, a6⟩, a7⟩, a8⟩, a9⟩, h1⟩, h2⟩, h3⟩, h4⟩, b1⟩, b2⟩, b3⟩, c1⟩, c2⟩, d1⟩, d2⟩, d3⟩, d4⟩, d5⟩, d6⟩, d7⟩, h8⟩, h9⟩, h10⟩, e1⟩, e2⟩, f1⟩, f2⟩
end Go.Proofs.Ytgkgedjmnbjalaa

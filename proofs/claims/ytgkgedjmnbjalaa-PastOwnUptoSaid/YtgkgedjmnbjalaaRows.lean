/-
  NARROWER THAN 'FOR EVERY INPUT', by the rows' own cells (each row's printed sentence says how): DiffTells: loops · DiffRows: loops · DiffBack: loops · DiffParts: loops · PatchTells: loops · PatchMakes: loops · PatchFronts: loops · PatchOnce: loops · TreeTells: loops · TreeChanges: loops · TreeBack: loops · TreeOther: loops · TreeOwn: loops · PastDoes: loops · PastAll: loops · PastOwn: loops · PastPrunes: loops.
  DERIVED. THE GIVEN ROWS OF THIS SEAT. 21 by the template 'for every input the law returns true; each argument reads behind the call as it read before'; 0 by the template 'total and deterministic' (their statements: YtgkgedjmnbjalaaTotals.lean).
  GIVEN WITH THE SEED: the statements are not yours to turn. If you find one false, say at which input.
  Laid BY PROGRAM, IN A SANDBOX (cutbox-rows.mjs): the forced cells as the released guide's own fill.sh prints them over the translation 6d287337583563c6… (all of the seat's roots in one cut). By AI agents, Wed Nov 11 2026. No macro, syntax, notation, axiom, sorry.
-/
import Derived.Test.YtgkgedjmnbjalaaChecked
import GoSem.Claim
import GoSem.ClaimJoined
import GoSem.ClaimMapViews
import Derived.JoinedTies
import Derived.KernelRfl
namespace Go.Proofs.Ytgkgedjmnbjalaa
/- THE CELL 'sum', in the pinned program and in every row, IS THE sha256 OF THE DUMP (.gsa) THAT YtgkgedjmnbjalaaProg.lean LOADS. Nothing in Lean hashes anything: it is a label: what it is worth is what the hold of that sum in a sandbox is worth. -/
noncomputable def Try.pinned : Pinned := { name := "ytgkgedjmnbjalaa", sum := "6d287337583563c6bdc34689955fd52cf7cbbbdf882e1070b18c8fcd7afd3aaf", checked := Try.checked }
namespace Rows
def none {H : Type} : Left H := { results := [], args := [] }

/-- 'tollbarlaw07.SpecTells': WHATEVER THE INPUT: true; the input reads as it did. -/
def specTellsSpec : ChangeSpec := { name := "specTells", fn := fun _ => fun
  | [d1, d2, d3] => { results := [.lit (.bool true)], args := [d1, d2, d3] }
  | _ => none }
def specTellsRow : OpenClaim := { program := "ytgkgedjmnbjalaa", sum := "6d287337583563c6bdc34689955fd52cf7cbbbdf882e1070b18c8fcd7afd3aaf", func := "tollbar/tollbarlaw07.SpecTells", spec := "specTells", unfollowed := true, recurses := true, apart := false }
def SpecTellsSaid : Prop := specTellsRow.holds Try.pinned (OpenSpec.ofChange specTellsSpec)

/-- ITS FALSE NEIGHBOUR: 'it returns false'. Refute it at one input. -/
def specTellsWrong : ChangeSpec := { name := "specTells", fn := fun _ => fun
  | [d1, d2, d3] => { results := [.lit (.bool false)], args := [d1, d2, d3] }
  | _ => none }
def SpecTellsWrongFalsely : Prop := specTellsRow.holds Try.pinned (OpenSpec.ofChange specTellsWrong)

/-- 'tollbarlaw07.SpecTags': WHATEVER THE INPUT: true; the input reads as it did. -/
def specTagsSpec : ChangeSpec := { name := "specTags", fn := fun _ => fun
  | [d1, d2, d3] => { results := [.lit (.bool true)], args := [d1, d2, d3] }
  | _ => none }
def specTagsRow : OpenClaim := { program := "ytgkgedjmnbjalaa", sum := "6d287337583563c6bdc34689955fd52cf7cbbbdf882e1070b18c8fcd7afd3aaf", func := "tollbar/tollbarlaw07.SpecTags", spec := "specTags", unfollowed := true, recurses := true, apart := false }
def SpecTagsSaid : Prop := specTagsRow.holds Try.pinned (OpenSpec.ofChange specTagsSpec)

/-- ITS FALSE NEIGHBOUR: 'it returns false'. Refute it at one input. -/
def specTagsWrong : ChangeSpec := { name := "specTags", fn := fun _ => fun
  | [d1, d2, d3] => { results := [.lit (.bool false)], args := [d1, d2, d3] }
  | _ => none }
def SpecTagsWrongFalsely : Prop := specTagsRow.holds Try.pinned (OpenSpec.ofChange specTagsWrong)

/-- 'tollbarlaw07.SpecGrows': WHATEVER THE INPUT: true; the input reads as it did. -/
def specGrowsSpec : ChangeSpec := { name := "specGrows", fn := fun _ => fun
  | [d] => { results := [.lit (.bool true)], args := [d] }
  | _ => none }
def specGrowsRow : OpenClaim := { program := "ytgkgedjmnbjalaa", sum := "6d287337583563c6bdc34689955fd52cf7cbbbdf882e1070b18c8fcd7afd3aaf", func := "tollbar/tollbarlaw07.SpecGrows", spec := "specGrows", unfollowed := true, recurses := true, apart := false }
def SpecGrowsSaid : Prop := specGrowsRow.holds Try.pinned (OpenSpec.ofChange specGrowsSpec)

/-- ITS FALSE NEIGHBOUR: 'it returns false'. Refute it at one input. -/
def specGrowsWrong : ChangeSpec := { name := "specGrows", fn := fun _ => fun
  | [d] => { results := [.lit (.bool false)], args := [d] }
  | _ => none }
def SpecGrowsWrongFalsely : Prop := specGrowsRow.holds Try.pinned (OpenSpec.ofChange specGrowsWrong)

/-- 'tollbarlaw07.SpecOwn': WHATEVER THE INPUT: true; the input reads as it did. -/
def specOwnSpec : ChangeSpec := { name := "specOwn", fn := fun _ => fun
  | [d1, d2] => { results := [.lit (.bool true)], args := [d1, d2] }
  | _ => none }
def specOwnRow : OpenClaim := { program := "ytgkgedjmnbjalaa", sum := "6d287337583563c6bdc34689955fd52cf7cbbbdf882e1070b18c8fcd7afd3aaf", func := "tollbar/tollbarlaw07.SpecOwn", spec := "specOwn", unfollowed := true, recurses := true, apart := false }
def SpecOwnSaid : Prop := specOwnRow.holds Try.pinned (OpenSpec.ofChange specOwnSpec)

/-- ITS FALSE NEIGHBOUR: 'it returns false'. Refute it at one input. -/
def specOwnWrong : ChangeSpec := { name := "specOwn", fn := fun _ => fun
  | [d1, d2] => { results := [.lit (.bool false)], args := [d1, d2] }
  | _ => none }
def SpecOwnWrongFalsely : Prop := specOwnRow.holds Try.pinned (OpenSpec.ofChange specOwnWrong)

/-- 'tollbarlaw16.DiffTells': WHATEVER THE INPUT: true; the input reads as it did. -/
def diffTellsSpec : ChangeSpec := { name := "diffTells", fn := fun _ => fun
  | [d1, d2] => { results := [.lit (.bool true)], args := [d1, d2] }
  | _ => none }
def diffTellsRow : OpenClaim := { program := "ytgkgedjmnbjalaa", sum := "6d287337583563c6bdc34689955fd52cf7cbbbdf882e1070b18c8fcd7afd3aaf", func := "tollbar/tollbarlaw16.DiffTells", spec := "diffTells", unfollowed := true, recurses := true, loops := true, apart := false }
def DiffTellsSaid : Prop := diffTellsRow.holds Try.pinned (OpenSpec.ofChange diffTellsSpec)

/-- ITS FALSE NEIGHBOUR: 'it returns false'. Refute it at one input. -/
def diffTellsWrong : ChangeSpec := { name := "diffTells", fn := fun _ => fun
  | [d1, d2] => { results := [.lit (.bool false)], args := [d1, d2] }
  | _ => none }
def DiffTellsWrongFalsely : Prop := diffTellsRow.holds Try.pinned (OpenSpec.ofChange diffTellsWrong)

/-- 'tollbarlaw16.DiffRows': WHATEVER THE INPUT: true; the input reads as it did. -/
def diffRowsSpec : ChangeSpec := { name := "diffRows", fn := fun _ => fun
  | [d1, d2, d3] => { results := [.lit (.bool true)], args := [d1, d2, d3] }
  | _ => none }
def diffRowsRow : OpenClaim := { program := "ytgkgedjmnbjalaa", sum := "6d287337583563c6bdc34689955fd52cf7cbbbdf882e1070b18c8fcd7afd3aaf", func := "tollbar/tollbarlaw16.DiffRows", spec := "diffRows", unfollowed := true, recurses := true, loops := true, apart := false }
def DiffRowsSaid : Prop := diffRowsRow.holds Try.pinned (OpenSpec.ofChange diffRowsSpec)

/-- ITS FALSE NEIGHBOUR: 'it returns false'. Refute it at one input. -/
def diffRowsWrong : ChangeSpec := { name := "diffRows", fn := fun _ => fun
  | [d1, d2, d3] => { results := [.lit (.bool false)], args := [d1, d2, d3] }
  | _ => none }
def DiffRowsWrongFalsely : Prop := diffRowsRow.holds Try.pinned (OpenSpec.ofChange diffRowsWrong)

/-- 'tollbarlaw16.DiffBack': WHATEVER THE INPUT: true; the input reads as it did. -/
def diffBackSpec : ChangeSpec := { name := "diffBack", fn := fun _ => fun
  | [d1, d2] => { results := [.lit (.bool true)], args := [d1, d2] }
  | _ => none }
def diffBackRow : OpenClaim := { program := "ytgkgedjmnbjalaa", sum := "6d287337583563c6bdc34689955fd52cf7cbbbdf882e1070b18c8fcd7afd3aaf", func := "tollbar/tollbarlaw16.DiffBack", spec := "diffBack", unfollowed := true, recurses := true, loops := true, apart := false }
def DiffBackSaid : Prop := diffBackRow.holds Try.pinned (OpenSpec.ofChange diffBackSpec)

/-- ITS FALSE NEIGHBOUR: 'it returns false'. Refute it at one input. -/
def diffBackWrong : ChangeSpec := { name := "diffBack", fn := fun _ => fun
  | [d1, d2] => { results := [.lit (.bool false)], args := [d1, d2] }
  | _ => none }
def DiffBackWrongFalsely : Prop := diffBackRow.holds Try.pinned (OpenSpec.ofChange diffBackWrong)

/-- 'tollbarlaw16.DiffParts': WHATEVER THE INPUT: true; the input reads as it did. -/
def diffPartsSpec : ChangeSpec := { name := "diffParts", fn := fun _ => fun
  | [d1, d2] => { results := [.lit (.bool true)], args := [d1, d2] }
  | _ => none }
def diffPartsRow : OpenClaim := { program := "ytgkgedjmnbjalaa", sum := "6d287337583563c6bdc34689955fd52cf7cbbbdf882e1070b18c8fcd7afd3aaf", func := "tollbar/tollbarlaw16.DiffParts", spec := "diffParts", unfollowed := true, recurses := true, loops := true, apart := false }
def DiffPartsSaid : Prop := diffPartsRow.holds Try.pinned (OpenSpec.ofChange diffPartsSpec)

/-- ITS FALSE NEIGHBOUR: 'it returns false'. Refute it at one input. -/
def diffPartsWrong : ChangeSpec := { name := "diffParts", fn := fun _ => fun
  | [d1, d2] => { results := [.lit (.bool false)], args := [d1, d2] }
  | _ => none }
def DiffPartsWrongFalsely : Prop := diffPartsRow.holds Try.pinned (OpenSpec.ofChange diffPartsWrong)

/-- 'tollbarlaw17.PatchTells': WHATEVER THE INPUT: true; the input reads as it did. -/
def patchTellsSpec : ChangeSpec := { name := "patchTells", fn := fun _ => fun
  | [d1, d2] => { results := [.lit (.bool true)], args := [d1, d2] }
  | _ => none }
def patchTellsRow : OpenClaim := { program := "ytgkgedjmnbjalaa", sum := "6d287337583563c6bdc34689955fd52cf7cbbbdf882e1070b18c8fcd7afd3aaf", func := "tollbar/tollbarlaw17.PatchTells", spec := "patchTells", inPlace := ["slices.overlaps[tollbar/api.Node]"], unfollowed := true, recurses := true, loops := true, apart := false }
def PatchTellsSaid : Prop := patchTellsRow.holds Try.pinned (OpenSpec.ofChange patchTellsSpec)

/-- ITS FALSE NEIGHBOUR: 'it returns false'. Refute it at one input. -/
def patchTellsWrong : ChangeSpec := { name := "patchTells", fn := fun _ => fun
  | [d1, d2] => { results := [.lit (.bool false)], args := [d1, d2] }
  | _ => none }
def PatchTellsWrongFalsely : Prop := patchTellsRow.holds Try.pinned (OpenSpec.ofChange patchTellsWrong)

/-- 'tollbarlaw17.PatchMakes': WHATEVER THE INPUT: true; the input reads as it did. -/
def patchMakesSpec : ChangeSpec := { name := "patchMakes", fn := fun _ => fun
  | [d1, d2] => { results := [.lit (.bool true)], args := [d1, d2] }
  | _ => none }
def patchMakesRow : OpenClaim := { program := "ytgkgedjmnbjalaa", sum := "6d287337583563c6bdc34689955fd52cf7cbbbdf882e1070b18c8fcd7afd3aaf", func := "tollbar/tollbarlaw17.PatchMakes", spec := "patchMakes", inPlace := ["slices.overlaps[tollbar/api.Node]"], unfollowed := true, recurses := true, loops := true, apart := false }
def PatchMakesSaid : Prop := patchMakesRow.holds Try.pinned (OpenSpec.ofChange patchMakesSpec)

/-- ITS FALSE NEIGHBOUR: 'it returns false'. Refute it at one input. -/
def patchMakesWrong : ChangeSpec := { name := "patchMakes", fn := fun _ => fun
  | [d1, d2] => { results := [.lit (.bool false)], args := [d1, d2] }
  | _ => none }
def PatchMakesWrongFalsely : Prop := patchMakesRow.holds Try.pinned (OpenSpec.ofChange patchMakesWrong)

/-- 'tollbarlaw17.PatchFronts': WHATEVER THE INPUT: true; the input reads as it did. -/
def patchFrontsSpec : ChangeSpec := { name := "patchFronts", fn := fun _ => fun
  | [d1, d2, d3] => { results := [.lit (.bool true)], args := [d1, d2, d3] }
  | _ => none }
def patchFrontsRow : OpenClaim := { program := "ytgkgedjmnbjalaa", sum := "6d287337583563c6bdc34689955fd52cf7cbbbdf882e1070b18c8fcd7afd3aaf", func := "tollbar/tollbarlaw17.PatchFronts", spec := "patchFronts", inPlace := ["slices.overlaps[tollbar/api.Node]"], unfollowed := true, recurses := true, loops := true, apart := false }
def PatchFrontsSaid : Prop := patchFrontsRow.holds Try.pinned (OpenSpec.ofChange patchFrontsSpec)

/-- ITS FALSE NEIGHBOUR: 'it returns false'. Refute it at one input. -/
def patchFrontsWrong : ChangeSpec := { name := "patchFronts", fn := fun _ => fun
  | [d1, d2, d3] => { results := [.lit (.bool false)], args := [d1, d2, d3] }
  | _ => none }
def PatchFrontsWrongFalsely : Prop := patchFrontsRow.holds Try.pinned (OpenSpec.ofChange patchFrontsWrong)

/-- 'tollbarlaw17.PatchOnce': WHATEVER THE INPUT: true; the input reads as it did. -/
def patchOnceSpec : ChangeSpec := { name := "patchOnce", fn := fun _ => fun
  | [d1, d2] => { results := [.lit (.bool true)], args := [d1, d2] }
  | _ => none }
def patchOnceRow : OpenClaim := { program := "ytgkgedjmnbjalaa", sum := "6d287337583563c6bdc34689955fd52cf7cbbbdf882e1070b18c8fcd7afd3aaf", func := "tollbar/tollbarlaw17.PatchOnce", spec := "patchOnce", inPlace := ["slices.overlaps[tollbar/api.Node]"], unfollowed := true, recurses := true, loops := true, apart := false }
def PatchOnceSaid : Prop := patchOnceRow.holds Try.pinned (OpenSpec.ofChange patchOnceSpec)

/-- ITS FALSE NEIGHBOUR: 'it returns false'. Refute it at one input. -/
def patchOnceWrong : ChangeSpec := { name := "patchOnce", fn := fun _ => fun
  | [d1, d2] => { results := [.lit (.bool false)], args := [d1, d2] }
  | _ => none }
def PatchOnceWrongFalsely : Prop := patchOnceRow.holds Try.pinned (OpenSpec.ofChange patchOnceWrong)

/-- 'tollbarlaw09.TreeTells': WHATEVER THE INPUT: true; the input reads as it did. -/
def treeTellsSpec : ChangeSpec := { name := "treeTells", fn := fun _ => fun
  | [d1, d2] => { results := [.lit (.bool true)], args := [d1, d2] }
  | _ => none }
def treeTellsRow : OpenClaim := { program := "ytgkgedjmnbjalaa", sum := "6d287337583563c6bdc34689955fd52cf7cbbbdf882e1070b18c8fcd7afd3aaf", func := "tollbar/tollbarlaw09.TreeTells", spec := "treeTells", inPlace := ["slices.overlaps[tollbar/api.Node]"], unfollowed := true, recurses := true, loops := true, apart := false }
def TreeTellsSaid : Prop := treeTellsRow.holds Try.pinned (OpenSpec.ofChange treeTellsSpec)

/-- ITS FALSE NEIGHBOUR: 'it returns false'. Refute it at one input. -/
def treeTellsWrong : ChangeSpec := { name := "treeTells", fn := fun _ => fun
  | [d1, d2] => { results := [.lit (.bool false)], args := [d1, d2] }
  | _ => none }
def TreeTellsWrongFalsely : Prop := treeTellsRow.holds Try.pinned (OpenSpec.ofChange treeTellsWrong)

/-- 'tollbarlaw09.TreeChanges': WHATEVER THE INPUT: true; the input reads as it did. -/
def treeChangesSpec : ChangeSpec := { name := "treeChanges", fn := fun _ => fun
  | [d1, d2, d3] => { results := [.lit (.bool true)], args := [d1, d2, d3] }
  | _ => none }
def treeChangesRow : OpenClaim := { program := "ytgkgedjmnbjalaa", sum := "6d287337583563c6bdc34689955fd52cf7cbbbdf882e1070b18c8fcd7afd3aaf", func := "tollbar/tollbarlaw09.TreeChanges", spec := "treeChanges", inPlace := ["slices.overlaps[tollbar/api.Node]"], unfollowed := true, recurses := true, loops := true, apart := false }
def TreeChangesSaid : Prop := treeChangesRow.holds Try.pinned (OpenSpec.ofChange treeChangesSpec)

/-- ITS FALSE NEIGHBOUR: 'it returns false'. Refute it at one input. -/
def treeChangesWrong : ChangeSpec := { name := "treeChanges", fn := fun _ => fun
  | [d1, d2, d3] => { results := [.lit (.bool false)], args := [d1, d2, d3] }
  | _ => none }
def TreeChangesWrongFalsely : Prop := treeChangesRow.holds Try.pinned (OpenSpec.ofChange treeChangesWrong)

/-- 'tollbarlaw09.TreeBack': WHATEVER THE INPUT: true; the input reads as it did. -/
def treeBackSpec : ChangeSpec := { name := "treeBack", fn := fun _ => fun
  | [d1, d2, d3] => { results := [.lit (.bool true)], args := [d1, d2, d3] }
  | _ => none }
def treeBackRow : OpenClaim := { program := "ytgkgedjmnbjalaa", sum := "6d287337583563c6bdc34689955fd52cf7cbbbdf882e1070b18c8fcd7afd3aaf", func := "tollbar/tollbarlaw09.TreeBack", spec := "treeBack", inPlace := ["slices.overlaps[tollbar/api.Node]"], unfollowed := true, recurses := true, loops := true, apart := false }
def TreeBackSaid : Prop := treeBackRow.holds Try.pinned (OpenSpec.ofChange treeBackSpec)

/-- ITS FALSE NEIGHBOUR: 'it returns false'. Refute it at one input. -/
def treeBackWrong : ChangeSpec := { name := "treeBack", fn := fun _ => fun
  | [d1, d2, d3] => { results := [.lit (.bool false)], args := [d1, d2, d3] }
  | _ => none }
def TreeBackWrongFalsely : Prop := treeBackRow.holds Try.pinned (OpenSpec.ofChange treeBackWrong)

/-- 'tollbarlaw09.TreeOther': WHATEVER THE INPUT: true; the input reads as it did. -/
def treeOtherSpec : ChangeSpec := { name := "treeOther", fn := fun _ => fun
  | [d1, d2, d3] => { results := [.lit (.bool true)], args := [d1, d2, d3] }
  | _ => none }
def treeOtherRow : OpenClaim := { program := "ytgkgedjmnbjalaa", sum := "6d287337583563c6bdc34689955fd52cf7cbbbdf882e1070b18c8fcd7afd3aaf", func := "tollbar/tollbarlaw09.TreeOther", spec := "treeOther", inPlace := ["slices.overlaps[tollbar/api.Node]"], unfollowed := true, recurses := true, loops := true, apart := false }
def TreeOtherSaid : Prop := treeOtherRow.holds Try.pinned (OpenSpec.ofChange treeOtherSpec)

/-- ITS FALSE NEIGHBOUR: 'it returns false'. Refute it at one input. -/
def treeOtherWrong : ChangeSpec := { name := "treeOther", fn := fun _ => fun
  | [d1, d2, d3] => { results := [.lit (.bool false)], args := [d1, d2, d3] }
  | _ => none }
def TreeOtherWrongFalsely : Prop := treeOtherRow.holds Try.pinned (OpenSpec.ofChange treeOtherWrong)

/-- 'tollbarlaw09.TreeOwn': WHATEVER THE INPUT: true; the input reads as it did. -/
def treeOwnSpec : ChangeSpec := { name := "treeOwn", fn := fun _ => fun
  | [d1, d2, d3] => { results := [.lit (.bool true)], args := [d1, d2, d3] }
  | _ => none }
def treeOwnRow : OpenClaim := { program := "ytgkgedjmnbjalaa", sum := "6d287337583563c6bdc34689955fd52cf7cbbbdf882e1070b18c8fcd7afd3aaf", func := "tollbar/tollbarlaw09.TreeOwn", spec := "treeOwn", inPlace := ["slices.overlaps[tollbar/api.Node]"], unfollowed := true, recurses := true, loops := true, apart := false }
def TreeOwnSaid : Prop := treeOwnRow.holds Try.pinned (OpenSpec.ofChange treeOwnSpec)

/-- ITS FALSE NEIGHBOUR: 'it returns false'. Refute it at one input. -/
def treeOwnWrong : ChangeSpec := { name := "treeOwn", fn := fun _ => fun
  | [d1, d2, d3] => { results := [.lit (.bool false)], args := [d1, d2, d3] }
  | _ => none }
def TreeOwnWrongFalsely : Prop := treeOwnRow.holds Try.pinned (OpenSpec.ofChange treeOwnWrong)

/-- 'tollbarlaw28.PastDoes': WHATEVER THE INPUT: true; the input reads as it did. -/
def pastDoesSpec : ChangeSpec := { name := "pastDoes", fn := fun _ => fun
  | [d] => { results := [.lit (.bool true)], args := [d] }
  | _ => none }
def pastDoesRow : OpenClaim := { program := "ytgkgedjmnbjalaa", sum := "6d287337583563c6bdc34689955fd52cf7cbbbdf882e1070b18c8fcd7afd3aaf", func := "tollbar/tollbarlaw28.PastDoes", spec := "pastDoes", inPlace := ["slices.overlaps[tollbar/api.Node]"], unfollowed := true, recurses := true, loops := true, apart := false }
def PastDoesSaid : Prop := pastDoesRow.holds Try.pinned (OpenSpec.ofChange pastDoesSpec)

/-- ITS FALSE NEIGHBOUR: 'it returns false'. Refute it at one input. -/
def pastDoesWrong : ChangeSpec := { name := "pastDoes", fn := fun _ => fun
  | [d] => { results := [.lit (.bool false)], args := [d] }
  | _ => none }
def PastDoesWrongFalsely : Prop := pastDoesRow.holds Try.pinned (OpenSpec.ofChange pastDoesWrong)

/-- 'tollbarlaw28.PastAll': WHATEVER THE INPUT: true; the input reads as it did. -/
def pastAllSpec : ChangeSpec := { name := "pastAll", fn := fun _ => fun
  | [d] => { results := [.lit (.bool true)], args := [d] }
  | _ => none }
def pastAllRow : OpenClaim := { program := "ytgkgedjmnbjalaa", sum := "6d287337583563c6bdc34689955fd52cf7cbbbdf882e1070b18c8fcd7afd3aaf", func := "tollbar/tollbarlaw28.PastAll", spec := "pastAll", inPlace := ["slices.overlaps[tollbar/api.Node]"], unfollowed := true, recurses := true, loops := true, apart := false }
def PastAllSaid : Prop := pastAllRow.holds Try.pinned (OpenSpec.ofChange pastAllSpec)

/-- ITS FALSE NEIGHBOUR: 'it returns false'. Refute it at one input. -/
def pastAllWrong : ChangeSpec := { name := "pastAll", fn := fun _ => fun
  | [d] => { results := [.lit (.bool false)], args := [d] }
  | _ => none }
def PastAllWrongFalsely : Prop := pastAllRow.holds Try.pinned (OpenSpec.ofChange pastAllWrong)

/-- 'tollbarlaw28.PastOwn': WHATEVER THE INPUT: true; the input reads as it did. -/
def pastOwnSpec : ChangeSpec := { name := "pastOwn", fn := fun _ => fun
  | [d] => { results := [.lit (.bool true)], args := [d] }
  | _ => none }
def pastOwnRow : OpenClaim := { program := "ytgkgedjmnbjalaa", sum := "6d287337583563c6bdc34689955fd52cf7cbbbdf882e1070b18c8fcd7afd3aaf", func := "tollbar/tollbarlaw28.PastOwn", spec := "pastOwn", inPlace := ["slices.overlaps[tollbar/api.Node]"], unfollowed := true, recurses := true, loops := true, apart := false }
def PastOwnSaid : Prop := pastOwnRow.holds Try.pinned (OpenSpec.ofChange pastOwnSpec)

/-- ITS FALSE NEIGHBOUR: 'it returns false'. Refute it at one input. -/
def pastOwnWrong : ChangeSpec := { name := "pastOwn", fn := fun _ => fun
  | [d] => { results := [.lit (.bool false)], args := [d] }
  | _ => none }
def PastOwnWrongFalsely : Prop := pastOwnRow.holds Try.pinned (OpenSpec.ofChange pastOwnWrong)

/-- 'tollbarlaw28.PastPrunes': WHATEVER THE INPUT: true; the input reads as it did. -/
def pastPrunesSpec : ChangeSpec := { name := "pastPrunes", fn := fun _ => fun
  | [d1, d2, d3] => { results := [.lit (.bool true)], args := [d1, d2, d3] }
  | _ => none }
def pastPrunesRow : OpenClaim := { program := "ytgkgedjmnbjalaa", sum := "6d287337583563c6bdc34689955fd52cf7cbbbdf882e1070b18c8fcd7afd3aaf", func := "tollbar/tollbarlaw28.PastPrunes", spec := "pastPrunes", inPlace := ["slices.overlaps[tollbar/api.Node]"], unfollowed := true, recurses := true, loops := true, apart := false }
def PastPrunesSaid : Prop := pastPrunesRow.holds Try.pinned (OpenSpec.ofChange pastPrunesSpec)

/-- ITS FALSE NEIGHBOUR: 'it returns false'. Refute it at one input. -/
def pastPrunesWrong : ChangeSpec := { name := "pastPrunes", fn := fun _ => fun
  | [d1, d2, d3] => { results := [.lit (.bool false)], args := [d1, d2, d3] }
  | _ => none }
def PastPrunesWrongFalsely : Prop := pastPrunesRow.holds Try.pinned (OpenSpec.ofChange pastPrunesWrong)

/- THE SECOND FORM. 'bulk': how many values and letters a reading holds, each counted each time it is reached (what is shared counts as often as it is met; a slice's spare places count too). A statement '..UptoSaid' is the law's where the arguments, and the package variables that the reading takes, are together of bulk at most 1048576: NARROWER than '..Said'. Prove '..Said' where nothing that the law and all that it calls make is longer than what came in: it says more and counts as full. Else prove '..UptoSaid'. A law counts once. -/
mutual
def uptoBulk {H : Type} : DataW H → Nat
  | .lit (.string bytes) => bytes.length + 1
  | .lit _ => 1
  | .nil => 1
  | .ptr d => uptoBulk d + 1
  | .slice elems spare => uptoBulkAll elems + uptoBulkAll spare + 1
  | .agg parts => uptoBulkAll parts + 1
  | .iface _ d => uptoBulk d + 1
  | .map entries => uptoBulkEntries entries + 1
  | .held _ => 1
def uptoBulkAll {H : Type} : List (DataW H) → Nat
  | [] => 0
  | d :: r => uptoBulk d + uptoBulkAll r
def uptoBulkEntries {H : Type} : List (Lit × DataW H) → Nat
  | [] => 0
  | x :: r => uptoBulkEntry x + uptoBulkEntries r
def uptoBulkEntry {H : Type} : Lit × DataW H → Nat
  | (.string bytes, d) => bytes.length + uptoBulk d + 1
  | (_, d) => uptoBulk d + 1
 end
def uptoSmall : (H : Type) → List (DataW H) → Bool := fun _ ds => decide (uptoBulkAll ds ≤ 1048576)
def OpenSpec.upto (s : _root_.Go.ChangeSpec) : _root_.Go.OpenSpec := { _root_.Go.OpenSpec.ofChange s with cond := some uptoSmall }

/-- 'tollbarlaw07.SpecTells', WHERE WHAT IT READS IS OF BULK AT MOST 1048576: true; the input reads as it did. -/
def specTellsUptoRow : OpenClaim := { program := "ytgkgedjmnbjalaa", sum := "6d287337583563c6bdc34689955fd52cf7cbbbdf882e1070b18c8fcd7afd3aaf", func := "tollbar/tollbarlaw07.SpecTells", spec := "specTells", unfollowed := true, recurses := true, apart := false, narrowed := true }
def SpecTellsUptoSaid : Prop := specTellsUptoRow.holds Try.pinned (OpenSpec.upto specTellsSpec)

/-- 'tollbarlaw07.SpecTags', WHERE WHAT IT READS IS OF BULK AT MOST 1048576: true; the input reads as it did. -/
def specTagsUptoRow : OpenClaim := { program := "ytgkgedjmnbjalaa", sum := "6d287337583563c6bdc34689955fd52cf7cbbbdf882e1070b18c8fcd7afd3aaf", func := "tollbar/tollbarlaw07.SpecTags", spec := "specTags", unfollowed := true, recurses := true, apart := false, narrowed := true }
def SpecTagsUptoSaid : Prop := specTagsUptoRow.holds Try.pinned (OpenSpec.upto specTagsSpec)

/-- 'tollbarlaw07.SpecGrows', WHERE WHAT IT READS IS OF BULK AT MOST 1048576: true; the input reads as it did. -/
def specGrowsUptoRow : OpenClaim := { program := "ytgkgedjmnbjalaa", sum := "6d287337583563c6bdc34689955fd52cf7cbbbdf882e1070b18c8fcd7afd3aaf", func := "tollbar/tollbarlaw07.SpecGrows", spec := "specGrows", unfollowed := true, recurses := true, apart := false, narrowed := true }
def SpecGrowsUptoSaid : Prop := specGrowsUptoRow.holds Try.pinned (OpenSpec.upto specGrowsSpec)

/-- 'tollbarlaw07.SpecOwn', WHERE WHAT IT READS IS OF BULK AT MOST 1048576: true; the input reads as it did. -/
def specOwnUptoRow : OpenClaim := { program := "ytgkgedjmnbjalaa", sum := "6d287337583563c6bdc34689955fd52cf7cbbbdf882e1070b18c8fcd7afd3aaf", func := "tollbar/tollbarlaw07.SpecOwn", spec := "specOwn", unfollowed := true, recurses := true, apart := false, narrowed := true }
def SpecOwnUptoSaid : Prop := specOwnUptoRow.holds Try.pinned (OpenSpec.upto specOwnSpec)

/-- 'tollbarlaw16.DiffTells', WHERE WHAT IT READS IS OF BULK AT MOST 1048576: true; the input reads as it did. -/
def diffTellsUptoRow : OpenClaim := { program := "ytgkgedjmnbjalaa", sum := "6d287337583563c6bdc34689955fd52cf7cbbbdf882e1070b18c8fcd7afd3aaf", func := "tollbar/tollbarlaw16.DiffTells", spec := "diffTells", unfollowed := true, recurses := true, loops := true, apart := false, narrowed := true }
def DiffTellsUptoSaid : Prop := diffTellsUptoRow.holds Try.pinned (OpenSpec.upto diffTellsSpec)

/-- 'tollbarlaw16.DiffRows', WHERE WHAT IT READS IS OF BULK AT MOST 1048576: true; the input reads as it did. -/
def diffRowsUptoRow : OpenClaim := { program := "ytgkgedjmnbjalaa", sum := "6d287337583563c6bdc34689955fd52cf7cbbbdf882e1070b18c8fcd7afd3aaf", func := "tollbar/tollbarlaw16.DiffRows", spec := "diffRows", unfollowed := true, recurses := true, loops := true, apart := false, narrowed := true }
def DiffRowsUptoSaid : Prop := diffRowsUptoRow.holds Try.pinned (OpenSpec.upto diffRowsSpec)

/-- 'tollbarlaw16.DiffBack', WHERE WHAT IT READS IS OF BULK AT MOST 1048576: true; the input reads as it did. -/
def diffBackUptoRow : OpenClaim := { program := "ytgkgedjmnbjalaa", sum := "6d287337583563c6bdc34689955fd52cf7cbbbdf882e1070b18c8fcd7afd3aaf", func := "tollbar/tollbarlaw16.DiffBack", spec := "diffBack", unfollowed := true, recurses := true, loops := true, apart := false, narrowed := true }
def DiffBackUptoSaid : Prop := diffBackUptoRow.holds Try.pinned (OpenSpec.upto diffBackSpec)

/-- 'tollbarlaw16.DiffParts', WHERE WHAT IT READS IS OF BULK AT MOST 1048576: true; the input reads as it did. -/
def diffPartsUptoRow : OpenClaim := { program := "ytgkgedjmnbjalaa", sum := "6d287337583563c6bdc34689955fd52cf7cbbbdf882e1070b18c8fcd7afd3aaf", func := "tollbar/tollbarlaw16.DiffParts", spec := "diffParts", unfollowed := true, recurses := true, loops := true, apart := false, narrowed := true }
def DiffPartsUptoSaid : Prop := diffPartsUptoRow.holds Try.pinned (OpenSpec.upto diffPartsSpec)

/-- 'tollbarlaw17.PatchTells', WHERE WHAT IT READS IS OF BULK AT MOST 1048576: true; the input reads as it did. -/
def patchTellsUptoRow : OpenClaim := { program := "ytgkgedjmnbjalaa", sum := "6d287337583563c6bdc34689955fd52cf7cbbbdf882e1070b18c8fcd7afd3aaf", func := "tollbar/tollbarlaw17.PatchTells", spec := "patchTells", inPlace := ["slices.overlaps[tollbar/api.Node]"], unfollowed := true, recurses := true, loops := true, apart := false, narrowed := true }
def PatchTellsUptoSaid : Prop := patchTellsUptoRow.holds Try.pinned (OpenSpec.upto patchTellsSpec)

/-- 'tollbarlaw17.PatchMakes', WHERE WHAT IT READS IS OF BULK AT MOST 1048576: true; the input reads as it did. -/
def patchMakesUptoRow : OpenClaim := { program := "ytgkgedjmnbjalaa", sum := "6d287337583563c6bdc34689955fd52cf7cbbbdf882e1070b18c8fcd7afd3aaf", func := "tollbar/tollbarlaw17.PatchMakes", spec := "patchMakes", inPlace := ["slices.overlaps[tollbar/api.Node]"], unfollowed := true, recurses := true, loops := true, apart := false, narrowed := true }
def PatchMakesUptoSaid : Prop := patchMakesUptoRow.holds Try.pinned (OpenSpec.upto patchMakesSpec)

/-- 'tollbarlaw17.PatchFronts', WHERE WHAT IT READS IS OF BULK AT MOST 1048576: true; the input reads as it did. -/
def patchFrontsUptoRow : OpenClaim := { program := "ytgkgedjmnbjalaa", sum := "6d287337583563c6bdc34689955fd52cf7cbbbdf882e1070b18c8fcd7afd3aaf", func := "tollbar/tollbarlaw17.PatchFronts", spec := "patchFronts", inPlace := ["slices.overlaps[tollbar/api.Node]"], unfollowed := true, recurses := true, loops := true, apart := false, narrowed := true }
def PatchFrontsUptoSaid : Prop := patchFrontsUptoRow.holds Try.pinned (OpenSpec.upto patchFrontsSpec)

/-- 'tollbarlaw17.PatchOnce', WHERE WHAT IT READS IS OF BULK AT MOST 1048576: true; the input reads as it did. -/
def patchOnceUptoRow : OpenClaim := { program := "ytgkgedjmnbjalaa", sum := "6d287337583563c6bdc34689955fd52cf7cbbbdf882e1070b18c8fcd7afd3aaf", func := "tollbar/tollbarlaw17.PatchOnce", spec := "patchOnce", inPlace := ["slices.overlaps[tollbar/api.Node]"], unfollowed := true, recurses := true, loops := true, apart := false, narrowed := true }
def PatchOnceUptoSaid : Prop := patchOnceUptoRow.holds Try.pinned (OpenSpec.upto patchOnceSpec)

/-- 'tollbarlaw09.TreeTells', WHERE WHAT IT READS IS OF BULK AT MOST 1048576: true; the input reads as it did. -/
def treeTellsUptoRow : OpenClaim := { program := "ytgkgedjmnbjalaa", sum := "6d287337583563c6bdc34689955fd52cf7cbbbdf882e1070b18c8fcd7afd3aaf", func := "tollbar/tollbarlaw09.TreeTells", spec := "treeTells", inPlace := ["slices.overlaps[tollbar/api.Node]"], unfollowed := true, recurses := true, loops := true, apart := false, narrowed := true }
def TreeTellsUptoSaid : Prop := treeTellsUptoRow.holds Try.pinned (OpenSpec.upto treeTellsSpec)

/-- 'tollbarlaw09.TreeChanges', WHERE WHAT IT READS IS OF BULK AT MOST 1048576: true; the input reads as it did. -/
def treeChangesUptoRow : OpenClaim := { program := "ytgkgedjmnbjalaa", sum := "6d287337583563c6bdc34689955fd52cf7cbbbdf882e1070b18c8fcd7afd3aaf", func := "tollbar/tollbarlaw09.TreeChanges", spec := "treeChanges", inPlace := ["slices.overlaps[tollbar/api.Node]"], unfollowed := true, recurses := true, loops := true, apart := false, narrowed := true }
def TreeChangesUptoSaid : Prop := treeChangesUptoRow.holds Try.pinned (OpenSpec.upto treeChangesSpec)

/-- 'tollbarlaw09.TreeBack', WHERE WHAT IT READS IS OF BULK AT MOST 1048576: true; the input reads as it did. -/
def treeBackUptoRow : OpenClaim := { program := "ytgkgedjmnbjalaa", sum := "6d287337583563c6bdc34689955fd52cf7cbbbdf882e1070b18c8fcd7afd3aaf", func := "tollbar/tollbarlaw09.TreeBack", spec := "treeBack", inPlace := ["slices.overlaps[tollbar/api.Node]"], unfollowed := true, recurses := true, loops := true, apart := false, narrowed := true }
def TreeBackUptoSaid : Prop := treeBackUptoRow.holds Try.pinned (OpenSpec.upto treeBackSpec)

/-- 'tollbarlaw09.TreeOther', WHERE WHAT IT READS IS OF BULK AT MOST 1048576: true; the input reads as it did. -/
def treeOtherUptoRow : OpenClaim := { program := "ytgkgedjmnbjalaa", sum := "6d287337583563c6bdc34689955fd52cf7cbbbdf882e1070b18c8fcd7afd3aaf", func := "tollbar/tollbarlaw09.TreeOther", spec := "treeOther", inPlace := ["slices.overlaps[tollbar/api.Node]"], unfollowed := true, recurses := true, loops := true, apart := false, narrowed := true }
def TreeOtherUptoSaid : Prop := treeOtherUptoRow.holds Try.pinned (OpenSpec.upto treeOtherSpec)

/-- 'tollbarlaw09.TreeOwn', WHERE WHAT IT READS IS OF BULK AT MOST 1048576: true; the input reads as it did. -/
def treeOwnUptoRow : OpenClaim := { program := "ytgkgedjmnbjalaa", sum := "6d287337583563c6bdc34689955fd52cf7cbbbdf882e1070b18c8fcd7afd3aaf", func := "tollbar/tollbarlaw09.TreeOwn", spec := "treeOwn", inPlace := ["slices.overlaps[tollbar/api.Node]"], unfollowed := true, recurses := true, loops := true, apart := false, narrowed := true }
def TreeOwnUptoSaid : Prop := treeOwnUptoRow.holds Try.pinned (OpenSpec.upto treeOwnSpec)

/-- 'tollbarlaw28.PastDoes', WHERE WHAT IT READS IS OF BULK AT MOST 1048576: true; the input reads as it did. -/
def pastDoesUptoRow : OpenClaim := { program := "ytgkgedjmnbjalaa", sum := "6d287337583563c6bdc34689955fd52cf7cbbbdf882e1070b18c8fcd7afd3aaf", func := "tollbar/tollbarlaw28.PastDoes", spec := "pastDoes", inPlace := ["slices.overlaps[tollbar/api.Node]"], unfollowed := true, recurses := true, loops := true, apart := false, narrowed := true }
def PastDoesUptoSaid : Prop := pastDoesUptoRow.holds Try.pinned (OpenSpec.upto pastDoesSpec)

/-- 'tollbarlaw28.PastAll', WHERE WHAT IT READS IS OF BULK AT MOST 1048576: true; the input reads as it did. -/
def pastAllUptoRow : OpenClaim := { program := "ytgkgedjmnbjalaa", sum := "6d287337583563c6bdc34689955fd52cf7cbbbdf882e1070b18c8fcd7afd3aaf", func := "tollbar/tollbarlaw28.PastAll", spec := "pastAll", inPlace := ["slices.overlaps[tollbar/api.Node]"], unfollowed := true, recurses := true, loops := true, apart := false, narrowed := true }
def PastAllUptoSaid : Prop := pastAllUptoRow.holds Try.pinned (OpenSpec.upto pastAllSpec)

/-- 'tollbarlaw28.PastOwn', WHERE WHAT IT READS IS OF BULK AT MOST 1048576: true; the input reads as it did. -/
def pastOwnUptoRow : OpenClaim := { program := "ytgkgedjmnbjalaa", sum := "6d287337583563c6bdc34689955fd52cf7cbbbdf882e1070b18c8fcd7afd3aaf", func := "tollbar/tollbarlaw28.PastOwn", spec := "pastOwn", inPlace := ["slices.overlaps[tollbar/api.Node]"], unfollowed := true, recurses := true, loops := true, apart := false, narrowed := true }
def PastOwnUptoSaid : Prop := pastOwnUptoRow.holds Try.pinned (OpenSpec.upto pastOwnSpec)

/-- 'tollbarlaw28.PastPrunes', WHERE WHAT IT READS IS OF BULK AT MOST 1048576: true; the input reads as it did. -/
def pastPrunesUptoRow : OpenClaim := { program := "ytgkgedjmnbjalaa", sum := "6d287337583563c6bdc34689955fd52cf7cbbbdf882e1070b18c8fcd7afd3aaf", func := "tollbar/tollbarlaw28.PastPrunes", spec := "pastPrunes", inPlace := ["slices.overlaps[tollbar/api.Node]"], unfollowed := true, recurses := true, loops := true, apart := false, narrowed := true }
def PastPrunesUptoSaid : Prop := pastPrunesUptoRow.holds Try.pinned (OpenSpec.upto pastPrunesSpec)

end Rows
end Go.Proofs.Ytgkgedjmnbjalaa

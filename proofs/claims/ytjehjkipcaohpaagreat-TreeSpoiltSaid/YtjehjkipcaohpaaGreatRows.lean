/-
  No cell of these rows narrows 'for every input' (looked for: loops, veiled, ifaces, maps, wideKeys, modest, calm, conditions, laid).
  DERIVED. THE GIVEN ROWS OF THIS SEAT. 19 by the template 'for every input the law returns true; each argument reads behind the call as it read before'; 0 by the template 'total and deterministic' (their statements: YtjehjkipcaohpaaGreatTotals.lean).
  GIVEN WITH THE SEED: the statements are not yours to turn. If you find one false, say at which input.
  Laid BY PROGRAM, IN A SANDBOX (cutbox-rows.mjs): the forced cells as the released guide's own fill.sh prints them over the translation dba0a07fa1628654… (all of the seat's roots in one cut). By AI agents, Wed Nov 11 2026. No macro, syntax, notation, axiom, sorry.
-/
import Derived.Test.YtjehjkipcaohpaaGreatChecked
import GoSem.Claim
import GoSem.ClaimJoined
import GoSem.ClaimMapViews
import Derived.JoinedTies
import Derived.KernelRfl
namespace Go.Proofs.YtjehjkipcaohpaaGreat
/- THE CELL 'sum', in the pinned program and in every row, IS THE sha256 OF THE DUMP (.gsa) THAT YtjehjkipcaohpaaGreatProg.lean LOADS. Nothing in Lean hashes anything: it is a label: what it is worth is what the hold of that sum in a sandbox is worth. -/
noncomputable def Tryz.pinned : Pinned := { name := "ytjehjkipcaohpaagreat", sum := "dba0a07fa16286549973f65714aa1e9aaff79556bf4b9cc50002ca5a24fe0fe4", checked := Tryz.checked }
namespace Rows
def none {H : Type} : Left H := { results := [], args := [] }

/-- 'quadformlaw11.EnumerateVectors': WHATEVER THE INPUT: true; the input reads as it did. -/
def enumerateVectorsSpec : ChangeSpec := { name := "enumerateVectors", fn := fun _ => fun
  | [d1, d2, d3] => { results := [.lit (.bool true)], args := [d1, d2, d3] }
  | _ => none }
def enumerateVectorsRow : OpenClaim := { program := "ytjehjkipcaohpaagreat", sum := "dba0a07fa16286549973f65714aa1e9aaff79556bf4b9cc50002ca5a24fe0fe4", func := "quadform/quadformlaw11.EnumerateVectors", spec := "enumerateVectors", inPlace := ["math/bits.Add64", "math/bits.Sub64"], unfollowed := true, recurses := true, apart := false }
def EnumerateVectorsSaid : Prop := enumerateVectorsRow.holds Tryz.pinned (OpenSpec.ofChange enumerateVectorsSpec)

/-- ITS FALSE NEIGHBOUR: 'it returns false'. Refute it at one input. -/
def enumerateVectorsWrong : ChangeSpec := { name := "enumerateVectors", fn := fun _ => fun
  | [d1, d2, d3] => { results := [.lit (.bool false)], args := [d1, d2, d3] }
  | _ => none }
def EnumerateVectorsWrongFalsely : Prop := enumerateVectorsRow.holds Tryz.pinned (OpenSpec.ofChange enumerateVectorsWrong)

/-- 'quadformlaw11.EnumerateBox': WHATEVER THE INPUT: true; the input reads as it did. -/
def enumerateBoxSpec : ChangeSpec := { name := "enumerateBox", fn := fun _ => fun
  | [d1, d2] => { results := [.lit (.bool true)], args := [d1, d2] }
  | _ => none }
def enumerateBoxRow : OpenClaim := { program := "ytjehjkipcaohpaagreat", sum := "dba0a07fa16286549973f65714aa1e9aaff79556bf4b9cc50002ca5a24fe0fe4", func := "quadform/quadformlaw11.EnumerateBox", spec := "enumerateBox", inPlace := ["math/bits.Add64", "math/bits.Sub64"], unfollowed := true, recurses := true, apart := false }
def EnumerateBoxSaid : Prop := enumerateBoxRow.holds Tryz.pinned (OpenSpec.ofChange enumerateBoxSpec)

/-- ITS FALSE NEIGHBOUR: 'it returns false'. Refute it at one input. -/
def enumerateBoxWrong : ChangeSpec := { name := "enumerateBox", fn := fun _ => fun
  | [d1, d2] => { results := [.lit (.bool false)], args := [d1, d2] }
  | _ => none }
def EnumerateBoxWrongFalsely : Prop := enumerateBoxRow.holds Tryz.pinned (OpenSpec.ofChange enumerateBoxWrong)

/-- 'quadformlaw11.EnumerateLists': WHATEVER THE INPUT: true; the input reads as it did. -/
def enumerateListsSpec : ChangeSpec := { name := "enumerateLists", fn := fun _ => fun
  | [d1, d2] => { results := [.lit (.bool true)], args := [d1, d2] }
  | _ => none }
def enumerateListsRow : OpenClaim := { program := "ytjehjkipcaohpaagreat", sum := "dba0a07fa16286549973f65714aa1e9aaff79556bf4b9cc50002ca5a24fe0fe4", func := "quadform/quadformlaw11.EnumerateLists", spec := "enumerateLists", inPlace := ["math/bits.Add64", "math/bits.Sub64"], unfollowed := true, recurses := true, apart := false }
def EnumerateListsSaid : Prop := enumerateListsRow.holds Tryz.pinned (OpenSpec.ofChange enumerateListsSpec)

/-- ITS FALSE NEIGHBOUR: 'it returns false'. Refute it at one input. -/
def enumerateListsWrong : ChangeSpec := { name := "enumerateLists", fn := fun _ => fun
  | [d1, d2] => { results := [.lit (.bool false)], args := [d1, d2] }
  | _ => none }
def EnumerateListsWrongFalsely : Prop := enumerateListsRow.holds Tryz.pinned (OpenSpec.ofChange enumerateListsWrong)

/-- 'quadformlaw11.EnumerateBegins': WHATEVER THE INPUT: true; the input reads as it did. -/
def enumerateBeginsSpec : ChangeSpec := { name := "enumerateBegins", fn := fun _ => fun
  | [d1, d2, d3] => { results := [.lit (.bool true)], args := [d1, d2, d3] }
  | _ => none }
def enumerateBeginsRow : OpenClaim := { program := "ytjehjkipcaohpaagreat", sum := "dba0a07fa16286549973f65714aa1e9aaff79556bf4b9cc50002ca5a24fe0fe4", func := "quadform/quadformlaw11.EnumerateBegins", spec := "enumerateBegins", inPlace := ["math/bits.Add64", "math/bits.Sub64"], unfollowed := true, recurses := true, apart := false }
def EnumerateBeginsSaid : Prop := enumerateBeginsRow.holds Tryz.pinned (OpenSpec.ofChange enumerateBeginsSpec)

/-- ITS FALSE NEIGHBOUR: 'it returns false'. Refute it at one input. -/
def enumerateBeginsWrong : ChangeSpec := { name := "enumerateBegins", fn := fun _ => fun
  | [d1, d2, d3] => { results := [.lit (.bool false)], args := [d1, d2, d3] }
  | _ => none }
def EnumerateBeginsWrongFalsely : Prop := enumerateBeginsRow.holds Tryz.pinned (OpenSpec.ofChange enumerateBeginsWrong)

/-- 'quadformlaw11.EnumerateBudget': WHATEVER THE INPUT: true; the input reads as it did. -/
def enumerateBudgetSpec : ChangeSpec := { name := "enumerateBudget", fn := fun _ => fun
  | [d1, d2] => { results := [.lit (.bool true)], args := [d1, d2] }
  | _ => none }
def enumerateBudgetRow : OpenClaim := { program := "ytjehjkipcaohpaagreat", sum := "dba0a07fa16286549973f65714aa1e9aaff79556bf4b9cc50002ca5a24fe0fe4", func := "quadform/quadformlaw11.EnumerateBudget", spec := "enumerateBudget", inPlace := ["math/bits.Add64", "math/bits.Sub64"], unfollowed := true, recurses := true, apart := false }
def EnumerateBudgetSaid : Prop := enumerateBudgetRow.holds Tryz.pinned (OpenSpec.ofChange enumerateBudgetSpec)

/-- ITS FALSE NEIGHBOUR: 'it returns false'. Refute it at one input. -/
def enumerateBudgetWrong : ChangeSpec := { name := "enumerateBudget", fn := fun _ => fun
  | [d1, d2] => { results := [.lit (.bool false)], args := [d1, d2] }
  | _ => none }
def EnumerateBudgetWrongFalsely : Prop := enumerateBudgetRow.holds Tryz.pinned (OpenSpec.ofChange enumerateBudgetWrong)

/-- 'quadformlaw11.EnumerateSums': WHATEVER THE INPUT: true; the input reads as it did. -/
def enumerateSumsSpec : ChangeSpec := { name := "enumerateSums", fn := fun _ => fun
  | [d1, d2, d3, d4] => { results := [.lit (.bool true)], args := [d1, d2, d3, d4] }
  | _ => none }
def enumerateSumsRow : OpenClaim := { program := "ytjehjkipcaohpaagreat", sum := "dba0a07fa16286549973f65714aa1e9aaff79556bf4b9cc50002ca5a24fe0fe4", func := "quadform/quadformlaw11.EnumerateSums", spec := "enumerateSums", inPlace := ["math/bits.Add64", "math/bits.Sub64"], unfollowed := true, recurses := true, apart := false }
def EnumerateSumsSaid : Prop := enumerateSumsRow.holds Tryz.pinned (OpenSpec.ofChange enumerateSumsSpec)

/-- ITS FALSE NEIGHBOUR: 'it returns false'. Refute it at one input. -/
def enumerateSumsWrong : ChangeSpec := { name := "enumerateSums", fn := fun _ => fun
  | [d1, d2, d3, d4] => { results := [.lit (.bool false)], args := [d1, d2, d3, d4] }
  | _ => none }
def EnumerateSumsWrongFalsely : Prop := enumerateSumsRow.holds Tryz.pinned (OpenSpec.ofChange enumerateSumsWrong)

/-- 'quadformlaw11.EnumerateCounts': WHATEVER THE INPUT: true; the input reads as it did. -/
def enumerateCountsSpec : ChangeSpec := { name := "enumerateCounts", fn := fun _ => fun
  | [d1, d2] => { results := [.lit (.bool true)], args := [d1, d2] }
  | _ => none }
def enumerateCountsRow : OpenClaim := { program := "ytjehjkipcaohpaagreat", sum := "dba0a07fa16286549973f65714aa1e9aaff79556bf4b9cc50002ca5a24fe0fe4", func := "quadform/quadformlaw11.EnumerateCounts", spec := "enumerateCounts", inPlace := ["math/bits.Add64", "math/bits.Sub64"], unfollowed := true, recurses := true, apart := false }
def EnumerateCountsSaid : Prop := enumerateCountsRow.holds Tryz.pinned (OpenSpec.ofChange enumerateCountsSpec)

/-- ITS FALSE NEIGHBOUR: 'it returns false'. Refute it at one input. -/
def enumerateCountsWrong : ChangeSpec := { name := "enumerateCounts", fn := fun _ => fun
  | [d1, d2] => { results := [.lit (.bool false)], args := [d1, d2] }
  | _ => none }
def EnumerateCountsWrongFalsely : Prop := enumerateCountsRow.holds Tryz.pinned (OpenSpec.ofChange enumerateCountsWrong)

/-- 'quadformlaw11.EnumerateShells': WHATEVER THE INPUT: true; the input reads as it did. -/
def enumerateShellsSpec : ChangeSpec := { name := "enumerateShells", fn := fun _ => fun
  | [d1, d2] => { results := [.lit (.bool true)], args := [d1, d2] }
  | _ => none }
def enumerateShellsRow : OpenClaim := { program := "ytjehjkipcaohpaagreat", sum := "dba0a07fa16286549973f65714aa1e9aaff79556bf4b9cc50002ca5a24fe0fe4", func := "quadform/quadformlaw11.EnumerateShells", spec := "enumerateShells", inPlace := ["math/bits.Add64", "math/bits.Sub64"], unfollowed := true, recurses := true, apart := false }
def EnumerateShellsSaid : Prop := enumerateShellsRow.holds Tryz.pinned (OpenSpec.ofChange enumerateShellsSpec)

/-- ITS FALSE NEIGHBOUR: 'it returns false'. Refute it at one input. -/
def enumerateShellsWrong : ChangeSpec := { name := "enumerateShells", fn := fun _ => fun
  | [d1, d2] => { results := [.lit (.bool false)], args := [d1, d2] }
  | _ => none }
def EnumerateShellsWrongFalsely : Prop := enumerateShellsRow.holds Tryz.pinned (OpenSpec.ofChange enumerateShellsWrong)

/-- 'quadformlaw11.EnumerateAny': WHATEVER THE INPUT: true; the input reads as it did. -/
def enumerateAnySpec : ChangeSpec := { name := "enumerateAny", fn := fun _ => fun
  | [d1, d2, d3, d4] => { results := [.lit (.bool true)], args := [d1, d2, d3, d4] }
  | _ => none }
def enumerateAnyRow : OpenClaim := { program := "ytjehjkipcaohpaagreat", sum := "dba0a07fa16286549973f65714aa1e9aaff79556bf4b9cc50002ca5a24fe0fe4", func := "quadform/quadformlaw11.EnumerateAny", spec := "enumerateAny", inPlace := ["math/bits.Add64", "math/bits.Sub64"], unfollowed := true, recurses := true, apart := false }
def EnumerateAnySaid : Prop := enumerateAnyRow.holds Tryz.pinned (OpenSpec.ofChange enumerateAnySpec)

/-- ITS FALSE NEIGHBOUR: 'it returns false'. Refute it at one input. -/
def enumerateAnyWrong : ChangeSpec := { name := "enumerateAny", fn := fun _ => fun
  | [d1, d2, d3, d4] => { results := [.lit (.bool false)], args := [d1, d2, d3, d4] }
  | _ => none }
def EnumerateAnyWrongFalsely : Prop := enumerateAnyRow.holds Tryz.pinned (OpenSpec.ofChange enumerateAnyWrong)

/-- 'quadformlaw11.EnumerateSame': WHATEVER THE INPUT: true; the input reads as it did. -/
def enumerateSameSpec : ChangeSpec := { name := "enumerateSame", fn := fun _ => fun
  | [d1, d2] => { results := [.lit (.bool true)], args := [d1, d2] }
  | _ => none }
def enumerateSameRow : OpenClaim := { program := "ytjehjkipcaohpaagreat", sum := "dba0a07fa16286549973f65714aa1e9aaff79556bf4b9cc50002ca5a24fe0fe4", func := "quadform/quadformlaw11.EnumerateSame", spec := "enumerateSame", inPlace := ["math/bits.Add64", "math/bits.Sub64"], unfollowed := true, recurses := true, apart := false }
def EnumerateSameSaid : Prop := enumerateSameRow.holds Tryz.pinned (OpenSpec.ofChange enumerateSameSpec)

/-- ITS FALSE NEIGHBOUR: 'it returns false'. Refute it at one input. -/
def enumerateSameWrong : ChangeSpec := { name := "enumerateSame", fn := fun _ => fun
  | [d1, d2] => { results := [.lit (.bool false)], args := [d1, d2] }
  | _ => none }
def EnumerateSameWrongFalsely : Prop := enumerateSameRow.holds Tryz.pinned (OpenSpec.ofChange enumerateSameWrong)

/-- 'quadformlaw12.TreeVerifies': WHATEVER THE INPUT: true; the input reads as it did. -/
def treeVerifiesSpec : ChangeSpec := { name := "treeVerifies", fn := fun _ => fun
  | [d1, d2] => { results := [.lit (.bool true)], args := [d1, d2] }
  | _ => none }
def treeVerifiesRow : OpenClaim := { program := "ytjehjkipcaohpaagreat", sum := "dba0a07fa16286549973f65714aa1e9aaff79556bf4b9cc50002ca5a24fe0fe4", func := "quadform/quadformlaw12.TreeVerifies", spec := "treeVerifies", inPlace := ["math/bits.Sub64", "math/bits.Add64"], unfollowed := true, recurses := true, named := ["math/bits.divideError", "math/bits.overflowError"], apart := false }
def TreeVerifiesSaid : Prop := treeVerifiesRow.holds Tryz.pinned (OpenSpec.ofChange treeVerifiesSpec)

/-- ITS FALSE NEIGHBOUR: 'it returns false'. Refute it at one input. -/
def treeVerifiesWrong : ChangeSpec := { name := "treeVerifies", fn := fun _ => fun
  | [d1, d2] => { results := [.lit (.bool false)], args := [d1, d2] }
  | _ => none }
def TreeVerifiesWrongFalsely : Prop := treeVerifiesRow.holds Tryz.pinned (OpenSpec.ofChange treeVerifiesWrong)

/-- 'quadformlaw12.TreeSpoilt': WHATEVER THE INPUT: true; the input reads as it did. -/
def treeSpoiltSpec : ChangeSpec := { name := "treeSpoilt", fn := fun _ => fun
  | [d1, d2, d3, d4, d5, d6] => { results := [.lit (.bool true)], args := [d1, d2, d3, d4, d5, d6] }
  | _ => none }
def treeSpoiltRow : OpenClaim := { program := "ytjehjkipcaohpaagreat", sum := "dba0a07fa16286549973f65714aa1e9aaff79556bf4b9cc50002ca5a24fe0fe4", func := "quadform/quadformlaw12.TreeSpoilt", spec := "treeSpoilt", inPlace := ["math/bits.Sub64", "math/bits.Add64"], unfollowed := true, recurses := true, named := ["math/bits.divideError", "math/bits.overflowError"], apart := false }
def TreeSpoiltSaid : Prop := treeSpoiltRow.holds Tryz.pinned (OpenSpec.ofChange treeSpoiltSpec)

/-- ITS FALSE NEIGHBOUR: 'it returns false'. Refute it at one input. -/
def treeSpoiltWrong : ChangeSpec := { name := "treeSpoilt", fn := fun _ => fun
  | [d1, d2, d3, d4, d5, d6] => { results := [.lit (.bool false)], args := [d1, d2, d3, d4, d5, d6] }
  | _ => none }
def TreeSpoiltWrongFalsely : Prop := treeSpoiltRow.holds Tryz.pinned (OpenSpec.ofChange treeSpoiltWrong)

/-- 'quadformlaw12.TreeUnique': WHATEVER THE INPUT: true; the input reads as it did. -/
def treeUniqueSpec : ChangeSpec := { name := "treeUnique", fn := fun _ => fun
  | [d1, d2, d3] => { results := [.lit (.bool true)], args := [d1, d2, d3] }
  | _ => none }
def treeUniqueRow : OpenClaim := { program := "ytjehjkipcaohpaagreat", sum := "dba0a07fa16286549973f65714aa1e9aaff79556bf4b9cc50002ca5a24fe0fe4", func := "quadform/quadformlaw12.TreeUnique", spec := "treeUnique", inPlace := ["math/bits.Sub64", "math/bits.Add64"], unfollowed := true, recurses := true, named := ["math/bits.divideError", "math/bits.overflowError"], apart := false }
def TreeUniqueSaid : Prop := treeUniqueRow.holds Tryz.pinned (OpenSpec.ofChange treeUniqueSpec)

/-- ITS FALSE NEIGHBOUR: 'it returns false'. Refute it at one input. -/
def treeUniqueWrong : ChangeSpec := { name := "treeUnique", fn := fun _ => fun
  | [d1, d2, d3] => { results := [.lit (.bool false)], args := [d1, d2, d3] }
  | _ => none }
def TreeUniqueWrongFalsely : Prop := treeUniqueRow.holds Tryz.pinned (OpenSpec.ofChange treeUniqueWrong)

/-- 'quadformlaw12.TreeCuts': WHATEVER THE INPUT: true; the input reads as it did. -/
def treeCutsSpec : ChangeSpec := { name := "treeCuts", fn := fun _ => fun
  | [d1, d2, d3] => { results := [.lit (.bool true)], args := [d1, d2, d3] }
  | _ => none }
def treeCutsRow : OpenClaim := { program := "ytjehjkipcaohpaagreat", sum := "dba0a07fa16286549973f65714aa1e9aaff79556bf4b9cc50002ca5a24fe0fe4", func := "quadform/quadformlaw12.TreeCuts", spec := "treeCuts", inPlace := ["math/bits.Sub64", "math/bits.Add64"], unfollowed := true, recurses := true, named := ["math/bits.divideError", "math/bits.overflowError"], apart := false }
def TreeCutsSaid : Prop := treeCutsRow.holds Tryz.pinned (OpenSpec.ofChange treeCutsSpec)

/-- ITS FALSE NEIGHBOUR: 'it returns false'. Refute it at one input. -/
def treeCutsWrong : ChangeSpec := { name := "treeCuts", fn := fun _ => fun
  | [d1, d2, d3] => { results := [.lit (.bool false)], args := [d1, d2, d3] }
  | _ => none }
def TreeCutsWrongFalsely : Prop := treeCutsRow.holds Tryz.pinned (OpenSpec.ofChange treeCutsWrong)

/-- 'quadformlaw12.TreeIntervals': WHATEVER THE INPUT: true; the input reads as it did. -/
def treeIntervalsSpec : ChangeSpec := { name := "treeIntervals", fn := fun _ => fun
  | [d1, d2] => { results := [.lit (.bool true)], args := [d1, d2] }
  | _ => none }
def treeIntervalsRow : OpenClaim := { program := "ytjehjkipcaohpaagreat", sum := "dba0a07fa16286549973f65714aa1e9aaff79556bf4b9cc50002ca5a24fe0fe4", func := "quadform/quadformlaw12.TreeIntervals", spec := "treeIntervals", inPlace := ["math/bits.Sub64", "math/bits.Add64"], unfollowed := true, recurses := true, named := ["math/bits.divideError", "math/bits.overflowError"], apart := false }
def TreeIntervalsSaid : Prop := treeIntervalsRow.holds Tryz.pinned (OpenSpec.ofChange treeIntervalsSpec)

/-- ITS FALSE NEIGHBOUR: 'it returns false'. Refute it at one input. -/
def treeIntervalsWrong : ChangeSpec := { name := "treeIntervals", fn := fun _ => fun
  | [d1, d2] => { results := [.lit (.bool false)], args := [d1, d2] }
  | _ => none }
def TreeIntervalsWrongFalsely : Prop := treeIntervalsRow.holds Tryz.pinned (OpenSpec.ofChange treeIntervalsWrong)

/-- 'quadformlaw12.TreeWide': WHATEVER THE INPUT: true; the input reads as it did. -/
def treeWideSpec : ChangeSpec := { name := "treeWide", fn := fun _ => fun
  | [d1, d2, d3, d4, d5] => { results := [.lit (.bool true)], args := [d1, d2, d3, d4, d5] }
  | _ => none }
def treeWideRow : OpenClaim := { program := "ytjehjkipcaohpaagreat", sum := "dba0a07fa16286549973f65714aa1e9aaff79556bf4b9cc50002ca5a24fe0fe4", func := "quadform/quadformlaw12.TreeWide", spec := "treeWide", inPlace := ["math/bits.Sub64", "math/bits.Add64"], unfollowed := true, recurses := true, named := ["math/bits.divideError", "math/bits.overflowError"], apart := false }
def TreeWideSaid : Prop := treeWideRow.holds Tryz.pinned (OpenSpec.ofChange treeWideSpec)

/-- ITS FALSE NEIGHBOUR: 'it returns false'. Refute it at one input. -/
def treeWideWrong : ChangeSpec := { name := "treeWide", fn := fun _ => fun
  | [d1, d2, d3, d4, d5] => { results := [.lit (.bool false)], args := [d1, d2, d3, d4, d5] }
  | _ => none }
def TreeWideWrongFalsely : Prop := treeWideRow.holds Tryz.pinned (OpenSpec.ofChange treeWideWrong)

/-- 'quadformlaw12.TreeEmits': WHATEVER THE INPUT: true; the input reads as it did. -/
def treeEmitsSpec : ChangeSpec := { name := "treeEmits", fn := fun _ => fun
  | [d1, d2, d3] => { results := [.lit (.bool true)], args := [d1, d2, d3] }
  | _ => none }
def treeEmitsRow : OpenClaim := { program := "ytjehjkipcaohpaagreat", sum := "dba0a07fa16286549973f65714aa1e9aaff79556bf4b9cc50002ca5a24fe0fe4", func := "quadform/quadformlaw12.TreeEmits", spec := "treeEmits", inPlace := ["math/bits.Sub64", "math/bits.Add64"], unfollowed := true, recurses := true, named := ["math/bits.divideError", "math/bits.overflowError"], apart := false }
def TreeEmitsSaid : Prop := treeEmitsRow.holds Tryz.pinned (OpenSpec.ofChange treeEmitsSpec)

/-- ITS FALSE NEIGHBOUR: 'it returns false'. Refute it at one input. -/
def treeEmitsWrong : ChangeSpec := { name := "treeEmits", fn := fun _ => fun
  | [d1, d2, d3] => { results := [.lit (.bool false)], args := [d1, d2, d3] }
  | _ => none }
def TreeEmitsWrongFalsely : Prop := treeEmitsRow.holds Tryz.pinned (OpenSpec.ofChange treeEmitsWrong)

/-- 'quadformlaw12.TreeErrors': WHATEVER THE INPUT: true; the input reads as it did. -/
def treeErrorsSpec : ChangeSpec := { name := "treeErrors", fn := fun _ => fun
  | [d1, d2, d3, d4, d5] => { results := [.lit (.bool true)], args := [d1, d2, d3, d4, d5] }
  | _ => none }
def treeErrorsRow : OpenClaim := { program := "ytjehjkipcaohpaagreat", sum := "dba0a07fa16286549973f65714aa1e9aaff79556bf4b9cc50002ca5a24fe0fe4", func := "quadform/quadformlaw12.TreeErrors", spec := "treeErrors", inPlace := ["math/bits.Sub64", "math/bits.Add64"], unfollowed := true, recurses := true, named := ["math/bits.divideError", "math/bits.overflowError"], apart := false }
def TreeErrorsSaid : Prop := treeErrorsRow.holds Tryz.pinned (OpenSpec.ofChange treeErrorsSpec)

/-- ITS FALSE NEIGHBOUR: 'it returns false'. Refute it at one input. -/
def treeErrorsWrong : ChangeSpec := { name := "treeErrors", fn := fun _ => fun
  | [d1, d2, d3, d4, d5] => { results := [.lit (.bool false)], args := [d1, d2, d3, d4, d5] }
  | _ => none }
def TreeErrorsWrongFalsely : Prop := treeErrorsRow.holds Tryz.pinned (OpenSpec.ofChange treeErrorsWrong)

/-- 'quadformlaw12.TreeProves': WHATEVER THE INPUT: true; the input reads as it did. -/
def treeProvesSpec : ChangeSpec := { name := "treeProves", fn := fun _ => fun
  | [d1, d2] => { results := [.lit (.bool true)], args := [d1, d2] }
  | _ => none }
def treeProvesRow : OpenClaim := { program := "ytjehjkipcaohpaagreat", sum := "dba0a07fa16286549973f65714aa1e9aaff79556bf4b9cc50002ca5a24fe0fe4", func := "quadform/quadformlaw12.TreeProves", spec := "treeProves", inPlace := ["math/bits.Sub64", "math/bits.Add64"], unfollowed := true, recurses := true, named := ["math/bits.divideError", "math/bits.overflowError"], apart := false }
def TreeProvesSaid : Prop := treeProvesRow.holds Tryz.pinned (OpenSpec.ofChange treeProvesSpec)

/-- ITS FALSE NEIGHBOUR: 'it returns false'. Refute it at one input. -/
def treeProvesWrong : ChangeSpec := { name := "treeProves", fn := fun _ => fun
  | [d1, d2] => { results := [.lit (.bool false)], args := [d1, d2] }
  | _ => none }
def TreeProvesWrongFalsely : Prop := treeProvesRow.holds Tryz.pinned (OpenSpec.ofChange treeProvesWrong)

/- THE SECOND FORM. 'bulk': how many values and letters a reading holds, each counted each time it is reached (what is shared counts as often as it is met; a slice's spare places count too). A statement '..UptoSaid' is the law's where the arguments, and the package variables that the reading takes, are together of bulk at most 1048576: NARROWER than '..Said'. Prove '..Said' where nothing that the law and all that it calls make is longer than what came in: it says more and counts as full. Else prove '..UptoSaid'. A law counts once. -/
mutual
def uptoBulk {H : Type} : DataW H → Nat
  | .lit (.string bytes) => bytes.length + 1
  | .lit _ => 1
  | .nil => 1
  | .ptr d => uptoBulk d + 1
  | .slice elems spare => uptoBulkAll elems + uptoBulkAll spare + 1
  | .agg parts => uptoBulkAll parts + 1
  | .iface _ d => uptoBulk d + 1
  | .map entries => uptoBulkEntries entries + 1
  | .held _ => 1
def uptoBulkAll {H : Type} : List (DataW H) → Nat
  | [] => 0
  | d :: r => uptoBulk d + uptoBulkAll r
def uptoBulkEntries {H : Type} : List (Lit × DataW H) → Nat
  | [] => 0
  | x :: r => uptoBulkEntry x + uptoBulkEntries r
def uptoBulkEntry {H : Type} : Lit × DataW H → Nat
  | (.string bytes, d) => bytes.length + uptoBulk d + 1
  | (_, d) => uptoBulk d + 1
 end
def uptoSmall : (H : Type) → List (DataW H) → Bool := fun _ ds => decide (uptoBulkAll ds ≤ 1048576)
def OpenSpec.upto (s : _root_.Go.ChangeSpec) : _root_.Go.OpenSpec := { _root_.Go.OpenSpec.ofChange s with cond := some uptoSmall }

/-- 'quadformlaw11.EnumerateVectors', WHERE WHAT IT READS IS OF BULK AT MOST 1048576: true; the input reads as it did. -/
def enumerateVectorsUptoRow : OpenClaim := { program := "ytjehjkipcaohpaagreat", sum := "dba0a07fa16286549973f65714aa1e9aaff79556bf4b9cc50002ca5a24fe0fe4", func := "quadform/quadformlaw11.EnumerateVectors", spec := "enumerateVectors", inPlace := ["math/bits.Add64", "math/bits.Sub64"], unfollowed := true, recurses := true, apart := false, narrowed := true }
def EnumerateVectorsUptoSaid : Prop := enumerateVectorsUptoRow.holds Tryz.pinned (OpenSpec.upto enumerateVectorsSpec)

/-- 'quadformlaw11.EnumerateBox', WHERE WHAT IT READS IS OF BULK AT MOST 1048576: true; the input reads as it did. -/
def enumerateBoxUptoRow : OpenClaim := { program := "ytjehjkipcaohpaagreat", sum := "dba0a07fa16286549973f65714aa1e9aaff79556bf4b9cc50002ca5a24fe0fe4", func := "quadform/quadformlaw11.EnumerateBox", spec := "enumerateBox", inPlace := ["math/bits.Add64", "math/bits.Sub64"], unfollowed := true, recurses := true, apart := false, narrowed := true }
def EnumerateBoxUptoSaid : Prop := enumerateBoxUptoRow.holds Tryz.pinned (OpenSpec.upto enumerateBoxSpec)

/-- 'quadformlaw11.EnumerateLists', WHERE WHAT IT READS IS OF BULK AT MOST 1048576: true; the input reads as it did. -/
def enumerateListsUptoRow : OpenClaim := { program := "ytjehjkipcaohpaagreat", sum := "dba0a07fa16286549973f65714aa1e9aaff79556bf4b9cc50002ca5a24fe0fe4", func := "quadform/quadformlaw11.EnumerateLists", spec := "enumerateLists", inPlace := ["math/bits.Add64", "math/bits.Sub64"], unfollowed := true, recurses := true, apart := false, narrowed := true }
def EnumerateListsUptoSaid : Prop := enumerateListsUptoRow.holds Tryz.pinned (OpenSpec.upto enumerateListsSpec)

/-- 'quadformlaw11.EnumerateBegins', WHERE WHAT IT READS IS OF BULK AT MOST 1048576: true; the input reads as it did. -/
def enumerateBeginsUptoRow : OpenClaim := { program := "ytjehjkipcaohpaagreat", sum := "dba0a07fa16286549973f65714aa1e9aaff79556bf4b9cc50002ca5a24fe0fe4", func := "quadform/quadformlaw11.EnumerateBegins", spec := "enumerateBegins", inPlace := ["math/bits.Add64", "math/bits.Sub64"], unfollowed := true, recurses := true, apart := false, narrowed := true }
def EnumerateBeginsUptoSaid : Prop := enumerateBeginsUptoRow.holds Tryz.pinned (OpenSpec.upto enumerateBeginsSpec)

/-- 'quadformlaw11.EnumerateBudget', WHERE WHAT IT READS IS OF BULK AT MOST 1048576: true; the input reads as it did. -/
def enumerateBudgetUptoRow : OpenClaim := { program := "ytjehjkipcaohpaagreat", sum := "dba0a07fa16286549973f65714aa1e9aaff79556bf4b9cc50002ca5a24fe0fe4", func := "quadform/quadformlaw11.EnumerateBudget", spec := "enumerateBudget", inPlace := ["math/bits.Add64", "math/bits.Sub64"], unfollowed := true, recurses := true, apart := false, narrowed := true }
def EnumerateBudgetUptoSaid : Prop := enumerateBudgetUptoRow.holds Tryz.pinned (OpenSpec.upto enumerateBudgetSpec)

/-- 'quadformlaw11.EnumerateSums', WHERE WHAT IT READS IS OF BULK AT MOST 1048576: true; the input reads as it did. -/
def enumerateSumsUptoRow : OpenClaim := { program := "ytjehjkipcaohpaagreat", sum := "dba0a07fa16286549973f65714aa1e9aaff79556bf4b9cc50002ca5a24fe0fe4", func := "quadform/quadformlaw11.EnumerateSums", spec := "enumerateSums", inPlace := ["math/bits.Add64", "math/bits.Sub64"], unfollowed := true, recurses := true, apart := false, narrowed := true }
def EnumerateSumsUptoSaid : Prop := enumerateSumsUptoRow.holds Tryz.pinned (OpenSpec.upto enumerateSumsSpec)

/-- 'quadformlaw11.EnumerateCounts', WHERE WHAT IT READS IS OF BULK AT MOST 1048576: true; the input reads as it did. -/
def enumerateCountsUptoRow : OpenClaim := { program := "ytjehjkipcaohpaagreat", sum := "dba0a07fa16286549973f65714aa1e9aaff79556bf4b9cc50002ca5a24fe0fe4", func := "quadform/quadformlaw11.EnumerateCounts", spec := "enumerateCounts", inPlace := ["math/bits.Add64", "math/bits.Sub64"], unfollowed := true, recurses := true, apart := false, narrowed := true }
def EnumerateCountsUptoSaid : Prop := enumerateCountsUptoRow.holds Tryz.pinned (OpenSpec.upto enumerateCountsSpec)

/-- 'quadformlaw11.EnumerateShells', WHERE WHAT IT READS IS OF BULK AT MOST 1048576: true; the input reads as it did. -/
def enumerateShellsUptoRow : OpenClaim := { program := "ytjehjkipcaohpaagreat", sum := "dba0a07fa16286549973f65714aa1e9aaff79556bf4b9cc50002ca5a24fe0fe4", func := "quadform/quadformlaw11.EnumerateShells", spec := "enumerateShells", inPlace := ["math/bits.Add64", "math/bits.Sub64"], unfollowed := true, recurses := true, apart := false, narrowed := true }
def EnumerateShellsUptoSaid : Prop := enumerateShellsUptoRow.holds Tryz.pinned (OpenSpec.upto enumerateShellsSpec)

/-- 'quadformlaw11.EnumerateAny', WHERE WHAT IT READS IS OF BULK AT MOST 1048576: true; the input reads as it did. -/
def enumerateAnyUptoRow : OpenClaim := { program := "ytjehjkipcaohpaagreat", sum := "dba0a07fa16286549973f65714aa1e9aaff79556bf4b9cc50002ca5a24fe0fe4", func := "quadform/quadformlaw11.EnumerateAny", spec := "enumerateAny", inPlace := ["math/bits.Add64", "math/bits.Sub64"], unfollowed := true, recurses := true, apart := false, narrowed := true }
def EnumerateAnyUptoSaid : Prop := enumerateAnyUptoRow.holds Tryz.pinned (OpenSpec.upto enumerateAnySpec)

/-- 'quadformlaw11.EnumerateSame', WHERE WHAT IT READS IS OF BULK AT MOST 1048576: true; the input reads as it did. -/
def enumerateSameUptoRow : OpenClaim := { program := "ytjehjkipcaohpaagreat", sum := "dba0a07fa16286549973f65714aa1e9aaff79556bf4b9cc50002ca5a24fe0fe4", func := "quadform/quadformlaw11.EnumerateSame", spec := "enumerateSame", inPlace := ["math/bits.Add64", "math/bits.Sub64"], unfollowed := true, recurses := true, apart := false, narrowed := true }
def EnumerateSameUptoSaid : Prop := enumerateSameUptoRow.holds Tryz.pinned (OpenSpec.upto enumerateSameSpec)

/-- 'quadformlaw12.TreeVerifies', WHERE WHAT IT READS IS OF BULK AT MOST 1048576: true; the input reads as it did. -/
def treeVerifiesUptoRow : OpenClaim := { program := "ytjehjkipcaohpaagreat", sum := "dba0a07fa16286549973f65714aa1e9aaff79556bf4b9cc50002ca5a24fe0fe4", func := "quadform/quadformlaw12.TreeVerifies", spec := "treeVerifies", inPlace := ["math/bits.Sub64", "math/bits.Add64"], unfollowed := true, recurses := true, named := ["math/bits.divideError", "math/bits.overflowError"], apart := false, narrowed := true }
def TreeVerifiesUptoSaid : Prop := treeVerifiesUptoRow.holds Tryz.pinned (OpenSpec.upto treeVerifiesSpec)

/-- 'quadformlaw12.TreeSpoilt', WHERE WHAT IT READS IS OF BULK AT MOST 1048576: true; the input reads as it did. -/
def treeSpoiltUptoRow : OpenClaim := { program := "ytjehjkipcaohpaagreat", sum := "dba0a07fa16286549973f65714aa1e9aaff79556bf4b9cc50002ca5a24fe0fe4", func := "quadform/quadformlaw12.TreeSpoilt", spec := "treeSpoilt", inPlace := ["math/bits.Sub64", "math/bits.Add64"], unfollowed := true, recurses := true, named := ["math/bits.divideError", "math/bits.overflowError"], apart := false, narrowed := true }
def TreeSpoiltUptoSaid : Prop := treeSpoiltUptoRow.holds Tryz.pinned (OpenSpec.upto treeSpoiltSpec)

/-- 'quadformlaw12.TreeUnique', WHERE WHAT IT READS IS OF BULK AT MOST 1048576: true; the input reads as it did. -/
def treeUniqueUptoRow : OpenClaim := { program := "ytjehjkipcaohpaagreat", sum := "dba0a07fa16286549973f65714aa1e9aaff79556bf4b9cc50002ca5a24fe0fe4", func := "quadform/quadformlaw12.TreeUnique", spec := "treeUnique", inPlace := ["math/bits.Sub64", "math/bits.Add64"], unfollowed := true, recurses := true, named := ["math/bits.divideError", "math/bits.overflowError"], apart := false, narrowed := true }
def TreeUniqueUptoSaid : Prop := treeUniqueUptoRow.holds Tryz.pinned (OpenSpec.upto treeUniqueSpec)

/-- 'quadformlaw12.TreeCuts', WHERE WHAT IT READS IS OF BULK AT MOST 1048576: true; the input reads as it did. -/
def treeCutsUptoRow : OpenClaim := { program := "ytjehjkipcaohpaagreat", sum := "dba0a07fa16286549973f65714aa1e9aaff79556bf4b9cc50002ca5a24fe0fe4", func := "quadform/quadformlaw12.TreeCuts", spec := "treeCuts", inPlace := ["math/bits.Sub64", "math/bits.Add64"], unfollowed := true, recurses := true, named := ["math/bits.divideError", "math/bits.overflowError"], apart := false, narrowed := true }
def TreeCutsUptoSaid : Prop := treeCutsUptoRow.holds Tryz.pinned (OpenSpec.upto treeCutsSpec)

/-- 'quadformlaw12.TreeIntervals', WHERE WHAT IT READS IS OF BULK AT MOST 1048576: true; the input reads as it did. -/
def treeIntervalsUptoRow : OpenClaim := { program := "ytjehjkipcaohpaagreat", sum := "dba0a07fa16286549973f65714aa1e9aaff79556bf4b9cc50002ca5a24fe0fe4", func := "quadform/quadformlaw12.TreeIntervals", spec := "treeIntervals", inPlace := ["math/bits.Sub64", "math/bits.Add64"], unfollowed := true, recurses := true, named := ["math/bits.divideError", "math/bits.overflowError"], apart := false, narrowed := true }
def TreeIntervalsUptoSaid : Prop := treeIntervalsUptoRow.holds Tryz.pinned (OpenSpec.upto treeIntervalsSpec)

/-- 'quadformlaw12.TreeWide', WHERE WHAT IT READS IS OF BULK AT MOST 1048576: true; the input reads as it did. -/
def treeWideUptoRow : OpenClaim := { program := "ytjehjkipcaohpaagreat", sum := "dba0a07fa16286549973f65714aa1e9aaff79556bf4b9cc50002ca5a24fe0fe4", func := "quadform/quadformlaw12.TreeWide", spec := "treeWide", inPlace := ["math/bits.Sub64", "math/bits.Add64"], unfollowed := true, recurses := true, named := ["math/bits.divideError", "math/bits.overflowError"], apart := false, narrowed := true }
def TreeWideUptoSaid : Prop := treeWideUptoRow.holds Tryz.pinned (OpenSpec.upto treeWideSpec)

/-- 'quadformlaw12.TreeEmits', WHERE WHAT IT READS IS OF BULK AT MOST 1048576: true; the input reads as it did. -/
def treeEmitsUptoRow : OpenClaim := { program := "ytjehjkipcaohpaagreat", sum := "dba0a07fa16286549973f65714aa1e9aaff79556bf4b9cc50002ca5a24fe0fe4", func := "quadform/quadformlaw12.TreeEmits", spec := "treeEmits", inPlace := ["math/bits.Sub64", "math/bits.Add64"], unfollowed := true, recurses := true, named := ["math/bits.divideError", "math/bits.overflowError"], apart := false, narrowed := true }
def TreeEmitsUptoSaid : Prop := treeEmitsUptoRow.holds Tryz.pinned (OpenSpec.upto treeEmitsSpec)

/-- 'quadformlaw12.TreeErrors', WHERE WHAT IT READS IS OF BULK AT MOST 1048576: true; the input reads as it did. -/
def treeErrorsUptoRow : OpenClaim := { program := "ytjehjkipcaohpaagreat", sum := "dba0a07fa16286549973f65714aa1e9aaff79556bf4b9cc50002ca5a24fe0fe4", func := "quadform/quadformlaw12.TreeErrors", spec := "treeErrors", inPlace := ["math/bits.Sub64", "math/bits.Add64"], unfollowed := true, recurses := true, named := ["math/bits.divideError", "math/bits.overflowError"], apart := false, narrowed := true }
def TreeErrorsUptoSaid : Prop := treeErrorsUptoRow.holds Tryz.pinned (OpenSpec.upto treeErrorsSpec)

/-- 'quadformlaw12.TreeProves', WHERE WHAT IT READS IS OF BULK AT MOST 1048576: true; the input reads as it did. -/
def treeProvesUptoRow : OpenClaim := { program := "ytjehjkipcaohpaagreat", sum := "dba0a07fa16286549973f65714aa1e9aaff79556bf4b9cc50002ca5a24fe0fe4", func := "quadform/quadformlaw12.TreeProves", spec := "treeProves", inPlace := ["math/bits.Sub64", "math/bits.Add64"], unfollowed := true, recurses := true, named := ["math/bits.divideError", "math/bits.overflowError"], apart := false, narrowed := true }
def TreeProvesUptoSaid : Prop := treeProvesUptoRow.holds Tryz.pinned (OpenSpec.upto treeProvesSpec)

end Rows
end Go.Proofs.YtjehjkipcaohpaaGreat

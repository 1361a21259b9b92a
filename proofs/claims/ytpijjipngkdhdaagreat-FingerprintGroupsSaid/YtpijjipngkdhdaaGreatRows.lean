/-
  No cell of these rows narrows 'for every input' (looked for: loops, veiled, ifaces, maps, wideKeys, modest, calm, conditions, laid).
  DERIVED. THE GIVEN ROWS OF THIS SEAT. 17 by the template 'for every input the law returns true; each argument reads behind the call as it read before'; 0 by the template 'total and deterministic' (their statements: YtpijjipngkdhdaaGreatTotals.lean).
  GIVEN WITH THE SEED: the statements are not yours to turn. If you find one false, say at which input.
  Laid BY PROGRAM, IN A SANDBOX (cutbox-rows.mjs): the forced cells as the released guide's own fill.sh prints them over the translation 751c5b36d36a36d4… (all of the seat's roots in one cut). By AI agents, Wed Nov 11 2026. No macro, syntax, notation, axiom, sorry.
-/
import Derived.Test.YtpijjipngkdhdaaGreatChecked
import GoSem.Claim
import GoSem.ClaimJoined
import GoSem.ClaimMapViews
import Derived.JoinedTies
import Derived.KernelRfl
namespace Go.Proofs.YtpijjipngkdhdaaGreat
/- THE CELL 'sum', in the pinned program and in every row, IS THE sha256 OF THE DUMP (.gsa) THAT YtpijjipngkdhdaaGreatProg.lean LOADS. Nothing in Lean hashes anything: it is a label: what it is worth is what the hold of that sum in a sandbox is worth. -/
noncomputable def Tryz.pinned : Pinned := { name := "ytpijjipngkdhdaagreat", sum := "751c5b36d36a36d4bfe00ed42a4c24bbc471f5d9f364a454052b2e5ef02bb265", checked := Tryz.checked }
namespace Rows
def none {H : Type} : Left H := { results := [], args := [] }

/-- 'quadformlaw12.TreeErrors': WHATEVER THE INPUT: true; the input reads as it did. -/
def treeErrorsSpec : ChangeSpec := { name := "treeErrors", fn := fun _ => fun
  | [d1, d2, d3, d4, d5] => { results := [.lit (.bool true)], args := [d1, d2, d3, d4, d5] }
  | _ => none }
def treeErrorsRow : OpenClaim := { program := "ytpijjipngkdhdaagreat", sum := "751c5b36d36a36d4bfe00ed42a4c24bbc471f5d9f364a454052b2e5ef02bb265", func := "quadform/quadformlaw12.TreeErrors", spec := "treeErrors", inPlace := ["math/bits.Sub64", "math/bits.Add64"], unfollowed := true, recurses := true, named := ["math/bits.divideError", "math/bits.overflowError"], plainKeys := false, apart := false }
def TreeErrorsSaid : Prop := treeErrorsRow.holds Tryz.pinned (OpenSpec.ofChange treeErrorsSpec)

/-- ITS FALSE NEIGHBOUR: 'it returns false'. Refute it at one input. -/
def treeErrorsWrong : ChangeSpec := { name := "treeErrors", fn := fun _ => fun
  | [d1, d2, d3, d4, d5] => { results := [.lit (.bool false)], args := [d1, d2, d3, d4, d5] }
  | _ => none }
def TreeErrorsWrongFalsely : Prop := treeErrorsRow.holds Tryz.pinned (OpenSpec.ofChange treeErrorsWrong)

/-- 'quadformlaw15.FingerprintErrors': WHATEVER THE INPUT: true; the input reads as it did. -/
def fingerprintErrorsSpec : ChangeSpec := { name := "fingerprintErrors", fn := fun _ => fun
  | [d1, d2, d3, d4, d5, d6] => { results := [.lit (.bool true)], args := [d1, d2, d3, d4, d5, d6] }
  | _ => none }
def fingerprintErrorsRow : OpenClaim := { program := "ytpijjipngkdhdaagreat", sum := "751c5b36d36a36d4bfe00ed42a4c24bbc471f5d9f364a454052b2e5ef02bb265", func := "quadform/quadformlaw15.FingerprintErrors", spec := "fingerprintErrors", inPlace := ["math/bits.Add64", "math/bits.Sub64"], unfollowed := true, recurses := true, plainKeys := false, apart := false }
def FingerprintErrorsSaid : Prop := fingerprintErrorsRow.holds Tryz.pinned (OpenSpec.ofChange fingerprintErrorsSpec)

/-- ITS FALSE NEIGHBOUR: 'it returns false'. Refute it at one input. -/
def fingerprintErrorsWrong : ChangeSpec := { name := "fingerprintErrors", fn := fun _ => fun
  | [d1, d2, d3, d4, d5, d6] => { results := [.lit (.bool false)], args := [d1, d2, d3, d4, d5, d6] }
  | _ => none }
def FingerprintErrorsWrongFalsely : Prop := fingerprintErrorsRow.holds Tryz.pinned (OpenSpec.ofChange fingerprintErrorsWrong)

/-- 'quadformlaw15.FingerprintClasses': WHATEVER THE INPUT: true; the input reads as it did. -/
def fingerprintClassesSpec : ChangeSpec := { name := "fingerprintClasses", fn := fun _ => fun
  | [d1, d2] => { results := [.lit (.bool true)], args := [d1, d2] }
  | _ => none }
def fingerprintClassesRow : OpenClaim := { program := "ytpijjipngkdhdaagreat", sum := "751c5b36d36a36d4bfe00ed42a4c24bbc471f5d9f364a454052b2e5ef02bb265", func := "quadform/quadformlaw15.FingerprintClasses", spec := "fingerprintClasses", inPlace := ["math/bits.Add64", "math/bits.Sub64"], unfollowed := true, recurses := true, plainKeys := false, apart := false }
def FingerprintClassesSaid : Prop := fingerprintClassesRow.holds Tryz.pinned (OpenSpec.ofChange fingerprintClassesSpec)

/-- ITS FALSE NEIGHBOUR: 'it returns false'. Refute it at one input. -/
def fingerprintClassesWrong : ChangeSpec := { name := "fingerprintClasses", fn := fun _ => fun
  | [d1, d2] => { results := [.lit (.bool false)], args := [d1, d2] }
  | _ => none }
def FingerprintClassesWrongFalsely : Prop := fingerprintClassesRow.holds Tryz.pinned (OpenSpec.ofChange fingerprintClassesWrong)

/-- 'quadformlaw15.FingerprintEmpty': WHATEVER THE INPUT: true; the input reads as it did. -/
def fingerprintEmptySpec : ChangeSpec := { name := "fingerprintEmpty", fn := fun _ => fun
  | [d1, d2] => { results := [.lit (.bool true)], args := [d1, d2] }
  | _ => none }
def fingerprintEmptyRow : OpenClaim := { program := "ytpijjipngkdhdaagreat", sum := "751c5b36d36a36d4bfe00ed42a4c24bbc471f5d9f364a454052b2e5ef02bb265", func := "quadform/quadformlaw15.FingerprintEmpty", spec := "fingerprintEmpty", inPlace := ["math/bits.Add64", "math/bits.Sub64"], unfollowed := true, recurses := true, plainKeys := false, apart := false }
def FingerprintEmptySaid : Prop := fingerprintEmptyRow.holds Tryz.pinned (OpenSpec.ofChange fingerprintEmptySpec)

/-- ITS FALSE NEIGHBOUR: 'it returns false'. Refute it at one input. -/
def fingerprintEmptyWrong : ChangeSpec := { name := "fingerprintEmpty", fn := fun _ => fun
  | [d1, d2] => { results := [.lit (.bool false)], args := [d1, d2] }
  | _ => none }
def FingerprintEmptyWrongFalsely : Prop := fingerprintEmptyRow.holds Tryz.pinned (OpenSpec.ofChange fingerprintEmptyWrong)

/-- 'quadformlaw15.FingerprintGroups': WHATEVER THE INPUT: true; the input reads as it did. -/
def fingerprintGroupsSpec : ChangeSpec := { name := "fingerprintGroups", fn := fun _ => fun
  | [d1, d2] => { results := [.lit (.bool true)], args := [d1, d2] }
  | _ => none }
def fingerprintGroupsRow : OpenClaim := { program := "ytpijjipngkdhdaagreat", sum := "751c5b36d36a36d4bfe00ed42a4c24bbc471f5d9f364a454052b2e5ef02bb265", func := "quadform/quadformlaw15.FingerprintGroups", spec := "fingerprintGroups", inPlace := ["math/bits.Add64", "math/bits.Sub64"], unfollowed := true, recurses := true, plainKeys := false, apart := false }
def FingerprintGroupsSaid : Prop := fingerprintGroupsRow.holds Tryz.pinned (OpenSpec.ofChange fingerprintGroupsSpec)

/-- ITS FALSE NEIGHBOUR: 'it returns false'. Refute it at one input. -/
def fingerprintGroupsWrong : ChangeSpec := { name := "fingerprintGroups", fn := fun _ => fun
  | [d1, d2] => { results := [.lit (.bool false)], args := [d1, d2] }
  | _ => none }
def FingerprintGroupsWrongFalsely : Prop := fingerprintGroupsRow.holds Tryz.pinned (OpenSpec.ofChange fingerprintGroupsWrong)

/-- 'quadformlaw18.IsometryFinds': WHATEVER THE INPUT: true; the input reads as it did. -/
def isometryFindsSpec : ChangeSpec := { name := "isometryFinds", fn := fun _ => fun
  | [d] => { results := [.lit (.bool true)], args := [d] }
  | _ => none }
def isometryFindsRow : OpenClaim := { program := "ytpijjipngkdhdaagreat", sum := "751c5b36d36a36d4bfe00ed42a4c24bbc471f5d9f364a454052b2e5ef02bb265", func := "quadform/quadformlaw18.IsometryFinds", spec := "isometryFinds", inPlace := ["math/bits.Add64", "math/bits.Sub64"], unfollowed := true, recurses := true, plainKeys := false, apart := false }
def IsometryFindsSaid : Prop := isometryFindsRow.holds Tryz.pinned (OpenSpec.ofChange isometryFindsSpec)

/-- ITS FALSE NEIGHBOUR: 'it returns false'. Refute it at one input. -/
def isometryFindsWrong : ChangeSpec := { name := "isometryFinds", fn := fun _ => fun
  | [d] => { results := [.lit (.bool false)], args := [d] }
  | _ => none }
def IsometryFindsWrongFalsely : Prop := isometryFindsRow.holds Tryz.pinned (OpenSpec.ofChange isometryFindsWrong)

/-- 'quadformlaw18.IsometryPairs': WHATEVER THE INPUT: true; the input reads as it did. -/
def isometryPairsSpec : ChangeSpec := { name := "isometryPairs", fn := fun _ => fun
  | [d1, d2, d3] => { results := [.lit (.bool true)], args := [d1, d2, d3] }
  | _ => none }
def isometryPairsRow : OpenClaim := { program := "ytpijjipngkdhdaagreat", sum := "751c5b36d36a36d4bfe00ed42a4c24bbc471f5d9f364a454052b2e5ef02bb265", func := "quadform/quadformlaw18.IsometryPairs", spec := "isometryPairs", inPlace := ["math/bits.Add64", "math/bits.Sub64"], unfollowed := true, recurses := true, plainKeys := false, apart := false }
def IsometryPairsSaid : Prop := isometryPairsRow.holds Tryz.pinned (OpenSpec.ofChange isometryPairsSpec)

/-- ITS FALSE NEIGHBOUR: 'it returns false'. Refute it at one input. -/
def isometryPairsWrong : ChangeSpec := { name := "isometryPairs", fn := fun _ => fun
  | [d1, d2, d3] => { results := [.lit (.bool false)], args := [d1, d2, d3] }
  | _ => none }
def IsometryPairsWrongFalsely : Prop := isometryPairsRow.holds Tryz.pinned (OpenSpec.ofChange isometryPairsWrong)

/-- 'quadformlaw18.IsometryLeast': WHATEVER THE INPUT: true; the input reads as it did. -/
def isometryLeastSpec : ChangeSpec := { name := "isometryLeast", fn := fun _ => fun
  | [d1, d2, d3] => { results := [.lit (.bool true)], args := [d1, d2, d3] }
  | _ => none }
def isometryLeastRow : OpenClaim := { program := "ytpijjipngkdhdaagreat", sum := "751c5b36d36a36d4bfe00ed42a4c24bbc471f5d9f364a454052b2e5ef02bb265", func := "quadform/quadformlaw18.IsometryLeast", spec := "isometryLeast", inPlace := ["math/bits.Add64", "math/bits.Sub64"], unfollowed := true, recurses := true, plainKeys := false, apart := false }
def IsometryLeastSaid : Prop := isometryLeastRow.holds Tryz.pinned (OpenSpec.ofChange isometryLeastSpec)

/-- ITS FALSE NEIGHBOUR: 'it returns false'. Refute it at one input. -/
def isometryLeastWrong : ChangeSpec := { name := "isometryLeast", fn := fun _ => fun
  | [d1, d2, d3] => { results := [.lit (.bool false)], args := [d1, d2, d3] }
  | _ => none }
def IsometryLeastWrongFalsely : Prop := isometryLeastRow.holds Tryz.pinned (OpenSpec.ofChange isometryLeastWrong)

/-- 'quadformlaw18.IsometryExtends': WHATEVER THE INPUT: true; the input reads as it did. -/
def isometryExtendsSpec : ChangeSpec := { name := "isometryExtends", fn := fun _ => fun
  | [d1, d2, d3, d4] => { results := [.lit (.bool true)], args := [d1, d2, d3, d4] }
  | _ => none }
def isometryExtendsRow : OpenClaim := { program := "ytpijjipngkdhdaagreat", sum := "751c5b36d36a36d4bfe00ed42a4c24bbc471f5d9f364a454052b2e5ef02bb265", func := "quadform/quadformlaw18.IsometryExtends", spec := "isometryExtends", inPlace := ["math/bits.Add64", "math/bits.Sub64"], unfollowed := true, recurses := true, plainKeys := false, apart := false }
def IsometryExtendsSaid : Prop := isometryExtendsRow.holds Tryz.pinned (OpenSpec.ofChange isometryExtendsSpec)

/-- ITS FALSE NEIGHBOUR: 'it returns false'. Refute it at one input. -/
def isometryExtendsWrong : ChangeSpec := { name := "isometryExtends", fn := fun _ => fun
  | [d1, d2, d3, d4] => { results := [.lit (.bool false)], args := [d1, d2, d3, d4] }
  | _ => none }
def IsometryExtendsWrongFalsely : Prop := isometryExtendsRow.holds Tryz.pinned (OpenSpec.ofChange isometryExtendsWrong)

/-- 'quadformlaw18.IsometryCandidates': WHATEVER THE INPUT: true; the input reads as it did. -/
def isometryCandidatesSpec : ChangeSpec := { name := "isometryCandidates", fn := fun _ => fun
  | [d1, d2] => { results := [.lit (.bool true)], args := [d1, d2] }
  | _ => none }
def isometryCandidatesRow : OpenClaim := { program := "ytpijjipngkdhdaagreat", sum := "751c5b36d36a36d4bfe00ed42a4c24bbc471f5d9f364a454052b2e5ef02bb265", func := "quadform/quadformlaw18.IsometryCandidates", spec := "isometryCandidates", inPlace := ["math/bits.Add64", "math/bits.Sub64"], unfollowed := true, recurses := true, plainKeys := false, apart := false }
def IsometryCandidatesSaid : Prop := isometryCandidatesRow.holds Tryz.pinned (OpenSpec.ofChange isometryCandidatesSpec)

/-- ITS FALSE NEIGHBOUR: 'it returns false'. Refute it at one input. -/
def isometryCandidatesWrong : ChangeSpec := { name := "isometryCandidates", fn := fun _ => fun
  | [d1, d2] => { results := [.lit (.bool false)], args := [d1, d2] }
  | _ => none }
def IsometryCandidatesWrongFalsely : Prop := isometryCandidatesRow.holds Tryz.pinned (OpenSpec.ofChange isometryCandidatesWrong)

/-- 'quadformlaw18.IsometrySteps': WHATEVER THE INPUT: true; the input reads as it did. -/
def isometryStepsSpec : ChangeSpec := { name := "isometrySteps", fn := fun _ => fun
  | [d] => { results := [.lit (.bool true)], args := [d] }
  | _ => none }
def isometryStepsRow : OpenClaim := { program := "ytpijjipngkdhdaagreat", sum := "751c5b36d36a36d4bfe00ed42a4c24bbc471f5d9f364a454052b2e5ef02bb265", func := "quadform/quadformlaw18.IsometrySteps", spec := "isometrySteps", inPlace := ["math/bits.Add64", "math/bits.Sub64"], unfollowed := true, recurses := true, plainKeys := false, apart := false }
def IsometryStepsSaid : Prop := isometryStepsRow.holds Tryz.pinned (OpenSpec.ofChange isometryStepsSpec)

/-- ITS FALSE NEIGHBOUR: 'it returns false'. Refute it at one input. -/
def isometryStepsWrong : ChangeSpec := { name := "isometrySteps", fn := fun _ => fun
  | [d] => { results := [.lit (.bool false)], args := [d] }
  | _ => none }
def IsometryStepsWrongFalsely : Prop := isometryStepsRow.holds Tryz.pinned (OpenSpec.ofChange isometryStepsWrong)

/-- 'quadformlaw18.IsometryInvariants': WHATEVER THE INPUT: true; the input reads as it did. -/
def isometryInvariantsSpec : ChangeSpec := { name := "isometryInvariants", fn := fun _ => fun
  | [d1, d2, d3] => { results := [.lit (.bool true)], args := [d1, d2, d3] }
  | _ => none }
def isometryInvariantsRow : OpenClaim := { program := "ytpijjipngkdhdaagreat", sum := "751c5b36d36a36d4bfe00ed42a4c24bbc471f5d9f364a454052b2e5ef02bb265", func := "quadform/quadformlaw18.IsometryInvariants", spec := "isometryInvariants", inPlace := ["math/bits.Add64", "math/bits.Sub64"], unfollowed := true, recurses := true, plainKeys := false, apart := false }
def IsometryInvariantsSaid : Prop := isometryInvariantsRow.holds Tryz.pinned (OpenSpec.ofChange isometryInvariantsSpec)

/-- ITS FALSE NEIGHBOUR: 'it returns false'. Refute it at one input. -/
def isometryInvariantsWrong : ChangeSpec := { name := "isometryInvariants", fn := fun _ => fun
  | [d1, d2, d3] => { results := [.lit (.bool false)], args := [d1, d2, d3] }
  | _ => none }
def IsometryInvariantsWrongFalsely : Prop := isometryInvariantsRow.holds Tryz.pinned (OpenSpec.ofChange isometryInvariantsWrong)

/-- 'quadformlaw18.IsometryBinary': WHATEVER THE INPUT: true; the input reads as it did. -/
def isometryBinarySpec : ChangeSpec := { name := "isometryBinary", fn := fun _ => fun
  | [d1, d2, d3] => { results := [.lit (.bool true)], args := [d1, d2, d3] }
  | _ => none }
def isometryBinaryRow : OpenClaim := { program := "ytpijjipngkdhdaagreat", sum := "751c5b36d36a36d4bfe00ed42a4c24bbc471f5d9f364a454052b2e5ef02bb265", func := "quadform/quadformlaw18.IsometryBinary", spec := "isometryBinary", inPlace := ["math/bits.Add64", "math/bits.Sub64"], unfollowed := true, recurses := true, plainKeys := false, apart := false }
def IsometryBinarySaid : Prop := isometryBinaryRow.holds Tryz.pinned (OpenSpec.ofChange isometryBinarySpec)

/-- ITS FALSE NEIGHBOUR: 'it returns false'. Refute it at one input. -/
def isometryBinaryWrong : ChangeSpec := { name := "isometryBinary", fn := fun _ => fun
  | [d1, d2, d3] => { results := [.lit (.bool false)], args := [d1, d2, d3] }
  | _ => none }
def IsometryBinaryWrongFalsely : Prop := isometryBinaryRow.holds Tryz.pinned (OpenSpec.ofChange isometryBinaryWrong)

/-- 'quadformlaw18.IsometryErrors': WHATEVER THE INPUT: true; the input reads as it did. -/
def isometryErrorsSpec : ChangeSpec := { name := "isometryErrors", fn := fun _ => fun
  | [d1, d2, d3, d4, d5] => { results := [.lit (.bool true)], args := [d1, d2, d3, d4, d5] }
  | _ => none }
def isometryErrorsRow : OpenClaim := { program := "ytpijjipngkdhdaagreat", sum := "751c5b36d36a36d4bfe00ed42a4c24bbc471f5d9f364a454052b2e5ef02bb265", func := "quadform/quadformlaw18.IsometryErrors", spec := "isometryErrors", inPlace := ["math/bits.Add64", "math/bits.Sub64"], unfollowed := true, recurses := true, plainKeys := false, apart := false }
def IsometryErrorsSaid : Prop := isometryErrorsRow.holds Tryz.pinned (OpenSpec.ofChange isometryErrorsSpec)

/-- ITS FALSE NEIGHBOUR: 'it returns false'. Refute it at one input. -/
def isometryErrorsWrong : ChangeSpec := { name := "isometryErrors", fn := fun _ => fun
  | [d1, d2, d3, d4, d5] => { results := [.lit (.bool false)], args := [d1, d2, d3, d4, d5] }
  | _ => none }
def IsometryErrorsWrongFalsely : Prop := isometryErrorsRow.holds Tryz.pinned (OpenSpec.ofChange isometryErrorsWrong)

/-- 'quadformlaw18.IsometryVerifies': WHATEVER THE INPUT: true; the input reads as it did. -/
def isometryVerifiesSpec : ChangeSpec := { name := "isometryVerifies", fn := fun _ => fun
  | [d1, d2, d3, d4] => { results := [.lit (.bool true)], args := [d1, d2, d3, d4] }
  | _ => none }
def isometryVerifiesRow : OpenClaim := { program := "ytpijjipngkdhdaagreat", sum := "751c5b36d36a36d4bfe00ed42a4c24bbc471f5d9f364a454052b2e5ef02bb265", func := "quadform/quadformlaw18.IsometryVerifies", spec := "isometryVerifies", inPlace := ["math/bits.Add64", "math/bits.Sub64"], unfollowed := true, recurses := true, plainKeys := false, apart := false }
def IsometryVerifiesSaid : Prop := isometryVerifiesRow.holds Tryz.pinned (OpenSpec.ofChange isometryVerifiesSpec)

/-- ITS FALSE NEIGHBOUR: 'it returns false'. Refute it at one input. -/
def isometryVerifiesWrong : ChangeSpec := { name := "isometryVerifies", fn := fun _ => fun
  | [d1, d2, d3, d4] => { results := [.lit (.bool false)], args := [d1, d2, d3, d4] }
  | _ => none }
def IsometryVerifiesWrongFalsely : Prop := isometryVerifiesRow.holds Tryz.pinned (OpenSpec.ofChange isometryVerifiesWrong)

/-- 'quadformlaw18.IsometryAccepts': WHATEVER THE INPUT: true; the input reads as it did. -/
def isometryAcceptsSpec : ChangeSpec := { name := "isometryAccepts", fn := fun _ => fun
  | [d] => { results := [.lit (.bool true)], args := [d] }
  | _ => none }
def isometryAcceptsRow : OpenClaim := { program := "ytpijjipngkdhdaagreat", sum := "751c5b36d36a36d4bfe00ed42a4c24bbc471f5d9f364a454052b2e5ef02bb265", func := "quadform/quadformlaw18.IsometryAccepts", spec := "isometryAccepts", inPlace := ["math/bits.Add64", "math/bits.Sub64"], unfollowed := true, recurses := true, plainKeys := false, apart := false }
def IsometryAcceptsSaid : Prop := isometryAcceptsRow.holds Tryz.pinned (OpenSpec.ofChange isometryAcceptsSpec)

/-- ITS FALSE NEIGHBOUR: 'it returns false'. Refute it at one input. -/
def isometryAcceptsWrong : ChangeSpec := { name := "isometryAccepts", fn := fun _ => fun
  | [d] => { results := [.lit (.bool false)], args := [d] }
  | _ => none }
def IsometryAcceptsWrongFalsely : Prop := isometryAcceptsRow.holds Tryz.pinned (OpenSpec.ofChange isometryAcceptsWrong)

/-- 'quadformlaw18.IsometryEquivalence': WHATEVER THE INPUT: true; the input reads as it did. -/
def isometryEquivalenceSpec : ChangeSpec := { name := "isometryEquivalence", fn := fun _ => fun
  | [d1, d2] => { results := [.lit (.bool true)], args := [d1, d2] }
  | _ => none }
def isometryEquivalenceRow : OpenClaim := { program := "ytpijjipngkdhdaagreat", sum := "751c5b36d36a36d4bfe00ed42a4c24bbc471f5d9f364a454052b2e5ef02bb265", func := "quadform/quadformlaw18.IsometryEquivalence", spec := "isometryEquivalence", inPlace := ["math/bits.Add64", "math/bits.Sub64"], unfollowed := true, recurses := true, plainKeys := false, apart := false }
def IsometryEquivalenceSaid : Prop := isometryEquivalenceRow.holds Tryz.pinned (OpenSpec.ofChange isometryEquivalenceSpec)

/-- ITS FALSE NEIGHBOUR: 'it returns false'. Refute it at one input. -/
def isometryEquivalenceWrong : ChangeSpec := { name := "isometryEquivalence", fn := fun _ => fun
  | [d1, d2] => { results := [.lit (.bool false)], args := [d1, d2] }
  | _ => none }
def IsometryEquivalenceWrongFalsely : Prop := isometryEquivalenceRow.holds Tryz.pinned (OpenSpec.ofChange isometryEquivalenceWrong)

/- THE SECOND FORM. 'bulk': how many values and letters a reading holds, each counted each time it is reached (what is shared counts as often as it is met; a slice's spare places count too). A statement '..UptoSaid' is the law's where the arguments, and the package variables that the reading takes, are together of bulk at most 1048576: NARROWER than '..Said'. Prove '..Said' where nothing that the law and all that it calls make is longer than what came in: it says more and counts as full. Else prove '..UptoSaid'. A law counts once. -/
mutual
def uptoBulk {H : Type} : DataW H → Nat
  | .lit (.string bytes) => bytes.length + 1
  | .lit _ => 1
  | .nil => 1
  | .ptr d => uptoBulk d + 1
  | .slice elems spare => uptoBulkAll elems + uptoBulkAll spare + 1
  | .agg parts => uptoBulkAll parts + 1
  | .iface _ d => uptoBulk d + 1
  | .map entries => uptoBulkEntries entries + 1
  | .held _ => 1
def uptoBulkAll {H : Type} : List (DataW H) → Nat
  | [] => 0
  | d :: r => uptoBulk d + uptoBulkAll r
def uptoBulkEntries {H : Type} : List (Lit × DataW H) → Nat
  | [] => 0
  | x :: r => uptoBulkEntry x + uptoBulkEntries r
def uptoBulkEntry {H : Type} : Lit × DataW H → Nat
  | (.string bytes, d) => bytes.length + uptoBulk d + 1
  | (_, d) => uptoBulk d + 1
 end
def uptoSmall : (H : Type) → List (DataW H) → Bool := fun _ ds => decide (uptoBulkAll ds ≤ 1048576)
def OpenSpec.upto (s : _root_.Go.ChangeSpec) : _root_.Go.OpenSpec := { _root_.Go.OpenSpec.ofChange s with cond := some uptoSmall }

/-- 'quadformlaw12.TreeErrors', WHERE WHAT IT READS IS OF BULK AT MOST 1048576: true; the input reads as it did. -/
def treeErrorsUptoRow : OpenClaim := { program := "ytpijjipngkdhdaagreat", sum := "751c5b36d36a36d4bfe00ed42a4c24bbc471f5d9f364a454052b2e5ef02bb265", func := "quadform/quadformlaw12.TreeErrors", spec := "treeErrors", inPlace := ["math/bits.Sub64", "math/bits.Add64"], unfollowed := true, recurses := true, named := ["math/bits.divideError", "math/bits.overflowError"], plainKeys := false, apart := false, narrowed := true }
def TreeErrorsUptoSaid : Prop := treeErrorsUptoRow.holds Tryz.pinned (OpenSpec.upto treeErrorsSpec)

/-- 'quadformlaw15.FingerprintErrors', WHERE WHAT IT READS IS OF BULK AT MOST 1048576: true; the input reads as it did. -/
def fingerprintErrorsUptoRow : OpenClaim := { program := "ytpijjipngkdhdaagreat", sum := "751c5b36d36a36d4bfe00ed42a4c24bbc471f5d9f364a454052b2e5ef02bb265", func := "quadform/quadformlaw15.FingerprintErrors", spec := "fingerprintErrors", inPlace := ["math/bits.Add64", "math/bits.Sub64"], unfollowed := true, recurses := true, plainKeys := false, apart := false, narrowed := true }
def FingerprintErrorsUptoSaid : Prop := fingerprintErrorsUptoRow.holds Tryz.pinned (OpenSpec.upto fingerprintErrorsSpec)

/-- 'quadformlaw15.FingerprintClasses', WHERE WHAT IT READS IS OF BULK AT MOST 1048576: true; the input reads as it did. -/
def fingerprintClassesUptoRow : OpenClaim := { program := "ytpijjipngkdhdaagreat", sum := "751c5b36d36a36d4bfe00ed42a4c24bbc471f5d9f364a454052b2e5ef02bb265", func := "quadform/quadformlaw15.FingerprintClasses", spec := "fingerprintClasses", inPlace := ["math/bits.Add64", "math/bits.Sub64"], unfollowed := true, recurses := true, plainKeys := false, apart := false, narrowed := true }
def FingerprintClassesUptoSaid : Prop := fingerprintClassesUptoRow.holds Tryz.pinned (OpenSpec.upto fingerprintClassesSpec)

/-- 'quadformlaw15.FingerprintEmpty', WHERE WHAT IT READS IS OF BULK AT MOST 1048576: true; the input reads as it did. -/
def fingerprintEmptyUptoRow : OpenClaim := { program := "ytpijjipngkdhdaagreat", sum := "751c5b36d36a36d4bfe00ed42a4c24bbc471f5d9f364a454052b2e5ef02bb265", func := "quadform/quadformlaw15.FingerprintEmpty", spec := "fingerprintEmpty", inPlace := ["math/bits.Add64", "math/bits.Sub64"], unfollowed := true, recurses := true, plainKeys := false, apart := false, narrowed := true }
def FingerprintEmptyUptoSaid : Prop := fingerprintEmptyUptoRow.holds Tryz.pinned (OpenSpec.upto fingerprintEmptySpec)

/-- 'quadformlaw15.FingerprintGroups', WHERE WHAT IT READS IS OF BULK AT MOST 1048576: true; the input reads as it did. -/
def fingerprintGroupsUptoRow : OpenClaim := { program := "ytpijjipngkdhdaagreat", sum := "751c5b36d36a36d4bfe00ed42a4c24bbc471f5d9f364a454052b2e5ef02bb265", func := "quadform/quadformlaw15.FingerprintGroups", spec := "fingerprintGroups", inPlace := ["math/bits.Add64", "math/bits.Sub64"], unfollowed := true, recurses := true, plainKeys := false, apart := false, narrowed := true }
def FingerprintGroupsUptoSaid : Prop := fingerprintGroupsUptoRow.holds Tryz.pinned (OpenSpec.upto fingerprintGroupsSpec)

/-- 'quadformlaw18.IsometryFinds', WHERE WHAT IT READS IS OF BULK AT MOST 1048576: true; the input reads as it did. -/
def isometryFindsUptoRow : OpenClaim := { program := "ytpijjipngkdhdaagreat", sum := "751c5b36d36a36d4bfe00ed42a4c24bbc471f5d9f364a454052b2e5ef02bb265", func := "quadform/quadformlaw18.IsometryFinds", spec := "isometryFinds", inPlace := ["math/bits.Add64", "math/bits.Sub64"], unfollowed := true, recurses := true, plainKeys := false, apart := false, narrowed := true }
def IsometryFindsUptoSaid : Prop := isometryFindsUptoRow.holds Tryz.pinned (OpenSpec.upto isometryFindsSpec)

/-- 'quadformlaw18.IsometryPairs', WHERE WHAT IT READS IS OF BULK AT MOST 1048576: true; the input reads as it did. -/
def isometryPairsUptoRow : OpenClaim := { program := "ytpijjipngkdhdaagreat", sum := "751c5b36d36a36d4bfe00ed42a4c24bbc471f5d9f364a454052b2e5ef02bb265", func := "quadform/quadformlaw18.IsometryPairs", spec := "isometryPairs", inPlace := ["math/bits.Add64", "math/bits.Sub64"], unfollowed := true, recurses := true, plainKeys := false, apart := false, narrowed := true }
def IsometryPairsUptoSaid : Prop := isometryPairsUptoRow.holds Tryz.pinned (OpenSpec.upto isometryPairsSpec)

/-- 'quadformlaw18.IsometryLeast', WHERE WHAT IT READS IS OF BULK AT MOST 1048576: true; the input reads as it did. -/
def isometryLeastUptoRow : OpenClaim := { program := "ytpijjipngkdhdaagreat", sum := "751c5b36d36a36d4bfe00ed42a4c24bbc471f5d9f364a454052b2e5ef02bb265", func := "quadform/quadformlaw18.IsometryLeast", spec := "isometryLeast", inPlace := ["math/bits.Add64", "math/bits.Sub64"], unfollowed := true, recurses := true, plainKeys := false, apart := false, narrowed := true }
def IsometryLeastUptoSaid : Prop := isometryLeastUptoRow.holds Tryz.pinned (OpenSpec.upto isometryLeastSpec)

/-- 'quadformlaw18.IsometryExtends', WHERE WHAT IT READS IS OF BULK AT MOST 1048576: true; the input reads as it did. -/
def isometryExtendsUptoRow : OpenClaim := { program := "ytpijjipngkdhdaagreat", sum := "751c5b36d36a36d4bfe00ed42a4c24bbc471f5d9f364a454052b2e5ef02bb265", func := "quadform/quadformlaw18.IsometryExtends", spec := "isometryExtends", inPlace := ["math/bits.Add64", "math/bits.Sub64"], unfollowed := true, recurses := true, plainKeys := false, apart := false, narrowed := true }
def IsometryExtendsUptoSaid : Prop := isometryExtendsUptoRow.holds Tryz.pinned (OpenSpec.upto isometryExtendsSpec)

/-- 'quadformlaw18.IsometryCandidates', WHERE WHAT IT READS IS OF BULK AT MOST 1048576: true; the input reads as it did. -/
def isometryCandidatesUptoRow : OpenClaim := { program := "ytpijjipngkdhdaagreat", sum := "751c5b36d36a36d4bfe00ed42a4c24bbc471f5d9f364a454052b2e5ef02bb265", func := "quadform/quadformlaw18.IsometryCandidates", spec := "isometryCandidates", inPlace := ["math/bits.Add64", "math/bits.Sub64"], unfollowed := true, recurses := true, plainKeys := false, apart := false, narrowed := true }
def IsometryCandidatesUptoSaid : Prop := isometryCandidatesUptoRow.holds Tryz.pinned (OpenSpec.upto isometryCandidatesSpec)

/-- 'quadformlaw18.IsometrySteps', WHERE WHAT IT READS IS OF BULK AT MOST 1048576: true; the input reads as it did. -/
def isometryStepsUptoRow : OpenClaim := { program := "ytpijjipngkdhdaagreat", sum := "751c5b36d36a36d4bfe00ed42a4c24bbc471f5d9f364a454052b2e5ef02bb265", func := "quadform/quadformlaw18.IsometrySteps", spec := "isometrySteps", inPlace := ["math/bits.Add64", "math/bits.Sub64"], unfollowed := true, recurses := true, plainKeys := false, apart := false, narrowed := true }
def IsometryStepsUptoSaid : Prop := isometryStepsUptoRow.holds Tryz.pinned (OpenSpec.upto isometryStepsSpec)

/-- 'quadformlaw18.IsometryInvariants', WHERE WHAT IT READS IS OF BULK AT MOST 1048576: true; the input reads as it did. -/
def isometryInvariantsUptoRow : OpenClaim := { program := "ytpijjipngkdhdaagreat", sum := "751c5b36d36a36d4bfe00ed42a4c24bbc471f5d9f364a454052b2e5ef02bb265", func := "quadform/quadformlaw18.IsometryInvariants", spec := "isometryInvariants", inPlace := ["math/bits.Add64", "math/bits.Sub64"], unfollowed := true, recurses := true, plainKeys := false, apart := false, narrowed := true }
def IsometryInvariantsUptoSaid : Prop := isometryInvariantsUptoRow.holds Tryz.pinned (OpenSpec.upto isometryInvariantsSpec)

/-- 'quadformlaw18.IsometryBinary', WHERE WHAT IT READS IS OF BULK AT MOST 1048576: true; the input reads as it did. -/
def isometryBinaryUptoRow : OpenClaim := { program := "ytpijjipngkdhdaagreat", sum := "751c5b36d36a36d4bfe00ed42a4c24bbc471f5d9f364a454052b2e5ef02bb265", func := "quadform/quadformlaw18.IsometryBinary", spec := "isometryBinary", inPlace := ["math/bits.Add64", "math/bits.Sub64"], unfollowed := true, recurses := true, plainKeys := false, apart := false, narrowed := true }
def IsometryBinaryUptoSaid : Prop := isometryBinaryUptoRow.holds Tryz.pinned (OpenSpec.upto isometryBinarySpec)

/-- 'quadformlaw18.IsometryErrors', WHERE WHAT IT READS IS OF BULK AT MOST 1048576: true; the input reads as it did. -/
def isometryErrorsUptoRow : OpenClaim := { program := "ytpijjipngkdhdaagreat", sum := "751c5b36d36a36d4bfe00ed42a4c24bbc471f5d9f364a454052b2e5ef02bb265", func := "quadform/quadformlaw18.IsometryErrors", spec := "isometryErrors", inPlace := ["math/bits.Add64", "math/bits.Sub64"], unfollowed := true, recurses := true, plainKeys := false, apart := false, narrowed := true }
def IsometryErrorsUptoSaid : Prop := isometryErrorsUptoRow.holds Tryz.pinned (OpenSpec.upto isometryErrorsSpec)

/-- 'quadformlaw18.IsometryVerifies', WHERE WHAT IT READS IS OF BULK AT MOST 1048576: true; the input reads as it did. -/
def isometryVerifiesUptoRow : OpenClaim := { program := "ytpijjipngkdhdaagreat", sum := "751c5b36d36a36d4bfe00ed42a4c24bbc471f5d9f364a454052b2e5ef02bb265", func := "quadform/quadformlaw18.IsometryVerifies", spec := "isometryVerifies", inPlace := ["math/bits.Add64", "math/bits.Sub64"], unfollowed := true, recurses := true, plainKeys := false, apart := false, narrowed := true }
def IsometryVerifiesUptoSaid : Prop := isometryVerifiesUptoRow.holds Tryz.pinned (OpenSpec.upto isometryVerifiesSpec)

/-- 'quadformlaw18.IsometryAccepts', WHERE WHAT IT READS IS OF BULK AT MOST 1048576: true; the input reads as it did. -/
def isometryAcceptsUptoRow : OpenClaim := { program := "ytpijjipngkdhdaagreat", sum := "751c5b36d36a36d4bfe00ed42a4c24bbc471f5d9f364a454052b2e5ef02bb265", func := "quadform/quadformlaw18.IsometryAccepts", spec := "isometryAccepts", inPlace := ["math/bits.Add64", "math/bits.Sub64"], unfollowed := true, recurses := true, plainKeys := false, apart := false, narrowed := true }
def IsometryAcceptsUptoSaid : Prop := isometryAcceptsUptoRow.holds Tryz.pinned (OpenSpec.upto isometryAcceptsSpec)

/-- 'quadformlaw18.IsometryEquivalence', WHERE WHAT IT READS IS OF BULK AT MOST 1048576: true; the input reads as it did. -/
def isometryEquivalenceUptoRow : OpenClaim := { program := "ytpijjipngkdhdaagreat", sum := "751c5b36d36a36d4bfe00ed42a4c24bbc471f5d9f364a454052b2e5ef02bb265", func := "quadform/quadformlaw18.IsometryEquivalence", spec := "isometryEquivalence", inPlace := ["math/bits.Add64", "math/bits.Sub64"], unfollowed := true, recurses := true, plainKeys := false, apart := false, narrowed := true }
def IsometryEquivalenceUptoSaid : Prop := isometryEquivalenceUptoRow.holds Tryz.pinned (OpenSpec.upto isometryEquivalenceSpec)

end Rows
end Go.Proofs.YtpijjipngkdhdaaGreat

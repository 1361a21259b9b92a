/-
  No cell of these rows narrows 'for every input' (looked for: loops, veiled, ifaces, maps, wideKeys, modest, calm, conditions, laid).
  DERIVED. THE GIVEN ROWS OF THIS SEAT. 10 by the template 'for every input the law returns true; each argument reads behind the call as it read before'; 0 by the template 'total and deterministic' (their statements: YtcmkopogafchiaaGreatTotals.lean).
  GIVEN WITH THE SEED: the statements are not yours to turn. If you find one false, say at which input.
  Laid BY PROGRAM, IN A SANDBOX (cutbox-rows.mjs): the forced cells as the released guide's own fill.sh prints them over the translation 11ead11624f06d5e… (all of the seat's roots in one cut). By AI agents, Wed Nov 11 2026. No macro, syntax, notation, axiom, sorry.
-/
import Derived.Test.YtcmkopogafchiaaGreatChecked
import GoSem.Claim
import GoSem.ClaimJoined
import GoSem.ClaimMapViews
import Derived.JoinedTies
import Derived.KernelRfl
namespace Go.Proofs.YtcmkopogafchiaaGreat
/- THE CELL 'sum', in the pinned program and in every row, IS THE sha256 OF THE DUMP (.gsa) THAT YtcmkopogafchiaaGreatProg.lean LOADS. Nothing in Lean hashes anything: it is a label: what it is worth is what the hold of that sum in a sandbox is worth. -/
noncomputable def Tryz.pinned : Pinned := { name := "ytcmkopogafchiaagreat", sum := "11ead11624f06d5ee466a9c55c1a0d7ea3cad07bf1555dd4c99ba8ee7dd9ed36", checked := Tryz.checked }
namespace Rows
def none {H : Type} : Left H := { results := [], args := [] }

/-- 'quadformlaw15.FingerprintProfiles': WHATEVER THE INPUT: true; the input reads as it did. -/
def fingerprintProfilesSpec : ChangeSpec := { name := "fingerprintProfiles", fn := fun _ => fun
  | [d1, d2, d3] => { results := [.lit (.bool true)], args := [d1, d2, d3] }
  | _ => none }
def fingerprintProfilesRow : OpenClaim := { program := "ytcmkopogafchiaagreat", sum := "11ead11624f06d5ee466a9c55c1a0d7ea3cad07bf1555dd4c99ba8ee7dd9ed36", func := "quadform/quadformlaw15.FingerprintProfiles", spec := "fingerprintProfiles", inPlace := ["math/bits.Add64", "math/bits.Sub64"], unfollowed := true, recurses := true, plainKeys := false, apart := false }
def FingerprintProfilesSaid : Prop := fingerprintProfilesRow.holds Tryz.pinned (OpenSpec.ofChange fingerprintProfilesSpec)

/-- ITS FALSE NEIGHBOUR: 'it returns false'. Refute it at one input. -/
def fingerprintProfilesWrong : ChangeSpec := { name := "fingerprintProfiles", fn := fun _ => fun
  | [d1, d2, d3] => { results := [.lit (.bool false)], args := [d1, d2, d3] }
  | _ => none }
def FingerprintProfilesWrongFalsely : Prop := fingerprintProfilesRow.holds Tryz.pinned (OpenSpec.ofChange fingerprintProfilesWrong)

/-- 'quadformlaw15.FingerprintSignatures': WHATEVER THE INPUT: true; the input reads as it did. -/
def fingerprintSignaturesSpec : ChangeSpec := { name := "fingerprintSignatures", fn := fun _ => fun
  | [d1, d2] => { results := [.lit (.bool true)], args := [d1, d2] }
  | _ => none }
def fingerprintSignaturesRow : OpenClaim := { program := "ytcmkopogafchiaagreat", sum := "11ead11624f06d5ee466a9c55c1a0d7ea3cad07bf1555dd4c99ba8ee7dd9ed36", func := "quadform/quadformlaw15.FingerprintSignatures", spec := "fingerprintSignatures", inPlace := ["math/bits.Add64", "math/bits.Sub64"], unfollowed := true, recurses := true, plainKeys := false, apart := false }
def FingerprintSignaturesSaid : Prop := fingerprintSignaturesRow.holds Tryz.pinned (OpenSpec.ofChange fingerprintSignaturesSpec)

/-- ITS FALSE NEIGHBOUR: 'it returns false'. Refute it at one input. -/
def fingerprintSignaturesWrong : ChangeSpec := { name := "fingerprintSignatures", fn := fun _ => fun
  | [d1, d2] => { results := [.lit (.bool false)], args := [d1, d2] }
  | _ => none }
def FingerprintSignaturesWrongFalsely : Prop := fingerprintSignaturesRow.holds Tryz.pinned (OpenSpec.ofChange fingerprintSignaturesWrong)

/-- 'quadformlaw15.FingerprintCounts': WHATEVER THE INPUT: true; the input reads as it did. -/
def fingerprintCountsSpec : ChangeSpec := { name := "fingerprintCounts", fn := fun _ => fun
  | [d1, d2, d3] => { results := [.lit (.bool true)], args := [d1, d2, d3] }
  | _ => none }
def fingerprintCountsRow : OpenClaim := { program := "ytcmkopogafchiaagreat", sum := "11ead11624f06d5ee466a9c55c1a0d7ea3cad07bf1555dd4c99ba8ee7dd9ed36", func := "quadform/quadformlaw15.FingerprintCounts", spec := "fingerprintCounts", inPlace := ["math/bits.Add64", "math/bits.Sub64"], unfollowed := true, recurses := true, plainKeys := false, apart := false }
def FingerprintCountsSaid : Prop := fingerprintCountsRow.holds Tryz.pinned (OpenSpec.ofChange fingerprintCountsSpec)

/-- ITS FALSE NEIGHBOUR: 'it returns false'. Refute it at one input. -/
def fingerprintCountsWrong : ChangeSpec := { name := "fingerprintCounts", fn := fun _ => fun
  | [d1, d2, d3] => { results := [.lit (.bool false)], args := [d1, d2, d3] }
  | _ => none }
def FingerprintCountsWrongFalsely : Prop := fingerprintCountsRow.holds Tryz.pinned (OpenSpec.ofChange fingerprintCountsWrong)

/-- 'quadformlaw15.FingerprintInvariant': WHATEVER THE INPUT: true; the input reads as it did. -/
def fingerprintInvariantSpec : ChangeSpec := { name := "fingerprintInvariant", fn := fun _ => fun
  | [d1, d2] => { results := [.lit (.bool true)], args := [d1, d2] }
  | _ => none }
def fingerprintInvariantRow : OpenClaim := { program := "ytcmkopogafchiaagreat", sum := "11ead11624f06d5ee466a9c55c1a0d7ea3cad07bf1555dd4c99ba8ee7dd9ed36", func := "quadform/quadformlaw15.FingerprintInvariant", spec := "fingerprintInvariant", inPlace := ["math/bits.Add64", "math/bits.Sub64"], unfollowed := true, recurses := true, plainKeys := false, apart := false }
def FingerprintInvariantSaid : Prop := fingerprintInvariantRow.holds Tryz.pinned (OpenSpec.ofChange fingerprintInvariantSpec)

/-- ITS FALSE NEIGHBOUR: 'it returns false'. Refute it at one input. -/
def fingerprintInvariantWrong : ChangeSpec := { name := "fingerprintInvariant", fn := fun _ => fun
  | [d1, d2] => { results := [.lit (.bool false)], args := [d1, d2] }
  | _ => none }
def FingerprintInvariantWrongFalsely : Prop := fingerprintInvariantRow.holds Tryz.pinned (OpenSpec.ofChange fingerprintInvariantWrong)

/-- 'quadformlaw15.FingerprintMoves': WHATEVER THE INPUT: true; the input reads as it did. -/
def fingerprintMovesSpec : ChangeSpec := { name := "fingerprintMoves", fn := fun _ => fun
  | [d1, d2, d3, d4] => { results := [.lit (.bool true)], args := [d1, d2, d3, d4] }
  | _ => none }
def fingerprintMovesRow : OpenClaim := { program := "ytcmkopogafchiaagreat", sum := "11ead11624f06d5ee466a9c55c1a0d7ea3cad07bf1555dd4c99ba8ee7dd9ed36", func := "quadform/quadformlaw15.FingerprintMoves", spec := "fingerprintMoves", inPlace := ["math/bits.Add64", "math/bits.Sub64"], unfollowed := true, recurses := true, plainKeys := false, apart := false }
def FingerprintMovesSaid : Prop := fingerprintMovesRow.holds Tryz.pinned (OpenSpec.ofChange fingerprintMovesSpec)

/-- ITS FALSE NEIGHBOUR: 'it returns false'. Refute it at one input. -/
def fingerprintMovesWrong : ChangeSpec := { name := "fingerprintMoves", fn := fun _ => fun
  | [d1, d2, d3, d4] => { results := [.lit (.bool false)], args := [d1, d2, d3, d4] }
  | _ => none }
def FingerprintMovesWrongFalsely : Prop := fingerprintMovesRow.holds Tryz.pinned (OpenSpec.ofChange fingerprintMovesWrong)

/-- 'quadformlaw15.FingerprintLess': WHATEVER THE INPUT: true; the input reads as it did. -/
def fingerprintLessSpec : ChangeSpec := { name := "fingerprintLess", fn := fun _ => fun
  | [d1, d2, d3] => { results := [.lit (.bool true)], args := [d1, d2, d3] }
  | _ => none }
def fingerprintLessRow : OpenClaim := { program := "ytcmkopogafchiaagreat", sum := "11ead11624f06d5ee466a9c55c1a0d7ea3cad07bf1555dd4c99ba8ee7dd9ed36", func := "quadform/quadformlaw15.FingerprintLess", spec := "fingerprintLess", inPlace := ["math/bits.Add64", "math/bits.Sub64"], unfollowed := true, recurses := true, plainKeys := false, apart := false }
def FingerprintLessSaid : Prop := fingerprintLessRow.holds Tryz.pinned (OpenSpec.ofChange fingerprintLessSpec)

/-- ITS FALSE NEIGHBOUR: 'it returns false'. Refute it at one input. -/
def fingerprintLessWrong : ChangeSpec := { name := "fingerprintLess", fn := fun _ => fun
  | [d1, d2, d3] => { results := [.lit (.bool false)], args := [d1, d2, d3] }
  | _ => none }
def FingerprintLessWrongFalsely : Prop := fingerprintLessRow.holds Tryz.pinned (OpenSpec.ofChange fingerprintLessWrong)

/-- 'quadformlaw15.FingerprintErrors': WHATEVER THE INPUT: true; the input reads as it did. -/
def fingerprintErrorsSpec : ChangeSpec := { name := "fingerprintErrors", fn := fun _ => fun
  | [d1, d2, d3, d4, d5, d6] => { results := [.lit (.bool true)], args := [d1, d2, d3, d4, d5, d6] }
  | _ => none }
def fingerprintErrorsRow : OpenClaim := { program := "ytcmkopogafchiaagreat", sum := "11ead11624f06d5ee466a9c55c1a0d7ea3cad07bf1555dd4c99ba8ee7dd9ed36", func := "quadform/quadformlaw15.FingerprintErrors", spec := "fingerprintErrors", inPlace := ["math/bits.Add64", "math/bits.Sub64"], unfollowed := true, recurses := true, plainKeys := false, apart := false }
def FingerprintErrorsSaid : Prop := fingerprintErrorsRow.holds Tryz.pinned (OpenSpec.ofChange fingerprintErrorsSpec)

/-- ITS FALSE NEIGHBOUR: 'it returns false'. Refute it at one input. -/
def fingerprintErrorsWrong : ChangeSpec := { name := "fingerprintErrors", fn := fun _ => fun
  | [d1, d2, d3, d4, d5, d6] => { results := [.lit (.bool false)], args := [d1, d2, d3, d4, d5, d6] }
  | _ => none }
def FingerprintErrorsWrongFalsely : Prop := fingerprintErrorsRow.holds Tryz.pinned (OpenSpec.ofChange fingerprintErrorsWrong)

/-- 'quadformlaw15.FingerprintClasses': WHATEVER THE INPUT: true; the input reads as it did. -/
def fingerprintClassesSpec : ChangeSpec := { name := "fingerprintClasses", fn := fun _ => fun
  | [d1, d2] => { results := [.lit (.bool true)], args := [d1, d2] }
  | _ => none }
def fingerprintClassesRow : OpenClaim := { program := "ytcmkopogafchiaagreat", sum := "11ead11624f06d5ee466a9c55c1a0d7ea3cad07bf1555dd4c99ba8ee7dd9ed36", func := "quadform/quadformlaw15.FingerprintClasses", spec := "fingerprintClasses", inPlace := ["math/bits.Add64", "math/bits.Sub64"], unfollowed := true, recurses := true, plainKeys := false, apart := false }
def FingerprintClassesSaid : Prop := fingerprintClassesRow.holds Tryz.pinned (OpenSpec.ofChange fingerprintClassesSpec)

/-- ITS FALSE NEIGHBOUR: 'it returns false'. Refute it at one input. -/
def fingerprintClassesWrong : ChangeSpec := { name := "fingerprintClasses", fn := fun _ => fun
  | [d1, d2] => { results := [.lit (.bool false)], args := [d1, d2] }
  | _ => none }
def FingerprintClassesWrongFalsely : Prop := fingerprintClassesRow.holds Tryz.pinned (OpenSpec.ofChange fingerprintClassesWrong)

/-- 'quadformlaw15.FingerprintEmpty': WHATEVER THE INPUT: true; the input reads as it did. -/
def fingerprintEmptySpec : ChangeSpec := { name := "fingerprintEmpty", fn := fun _ => fun
  | [d1, d2] => { results := [.lit (.bool true)], args := [d1, d2] }
  | _ => none }
def fingerprintEmptyRow : OpenClaim := { program := "ytcmkopogafchiaagreat", sum := "11ead11624f06d5ee466a9c55c1a0d7ea3cad07bf1555dd4c99ba8ee7dd9ed36", func := "quadform/quadformlaw15.FingerprintEmpty", spec := "fingerprintEmpty", inPlace := ["math/bits.Add64", "math/bits.Sub64"], unfollowed := true, recurses := true, plainKeys := false, apart := false }
def FingerprintEmptySaid : Prop := fingerprintEmptyRow.holds Tryz.pinned (OpenSpec.ofChange fingerprintEmptySpec)

/-- ITS FALSE NEIGHBOUR: 'it returns false'. Refute it at one input. -/
def fingerprintEmptyWrong : ChangeSpec := { name := "fingerprintEmpty", fn := fun _ => fun
  | [d1, d2] => { results := [.lit (.bool false)], args := [d1, d2] }
  | _ => none }
def FingerprintEmptyWrongFalsely : Prop := fingerprintEmptyRow.holds Tryz.pinned (OpenSpec.ofChange fingerprintEmptyWrong)

/-- 'quadformlaw15.FingerprintGroups': WHATEVER THE INPUT: true; the input reads as it did. -/
def fingerprintGroupsSpec : ChangeSpec := { name := "fingerprintGroups", fn := fun _ => fun
  | [d1, d2] => { results := [.lit (.bool true)], args := [d1, d2] }
  | _ => none }
def fingerprintGroupsRow : OpenClaim := { program := "ytcmkopogafchiaagreat", sum := "11ead11624f06d5ee466a9c55c1a0d7ea3cad07bf1555dd4c99ba8ee7dd9ed36", func := "quadform/quadformlaw15.FingerprintGroups", spec := "fingerprintGroups", inPlace := ["math/bits.Add64", "math/bits.Sub64"], unfollowed := true, recurses := true, plainKeys := false, apart := false }
def FingerprintGroupsSaid : Prop := fingerprintGroupsRow.holds Tryz.pinned (OpenSpec.ofChange fingerprintGroupsSpec)

/-- ITS FALSE NEIGHBOUR: 'it returns false'. Refute it at one input. -/
def fingerprintGroupsWrong : ChangeSpec := { name := "fingerprintGroups", fn := fun _ => fun
  | [d1, d2] => { results := [.lit (.bool false)], args := [d1, d2] }
  | _ => none }
def FingerprintGroupsWrongFalsely : Prop := fingerprintGroupsRow.holds Tryz.pinned (OpenSpec.ofChange fingerprintGroupsWrong)

/- THE SECOND FORM. 'bulk': how many values and letters a reading holds, each counted each time it is reached (what is shared counts as often as it is met; a slice's spare places count too). A statement '..UptoSaid' is the law's where the arguments, and the package variables that the reading takes, are together of bulk at most 1048576: NARROWER than '..Said'. Prove '..Said' where nothing that the law and all that it calls make is longer than what came in: it says more and counts as full. Else prove '..UptoSaid'. A law counts once. -/
mutual
def uptoBulk {H : Type} : DataW H → Nat
  | .lit (.string bytes) => bytes.length + 1
  | .lit _ => 1
  | .nil => 1
  | .ptr d => uptoBulk d + 1
  | .slice elems spare => uptoBulkAll elems + uptoBulkAll spare + 1
  | .agg parts => uptoBulkAll parts + 1
  | .iface _ d => uptoBulk d + 1
  | .map entries => uptoBulkEntries entries + 1
  | .held _ => 1
def uptoBulkAll {H : Type} : List (DataW H) → Nat
  | [] => 0
  | d :: r => uptoBulk d + uptoBulkAll r
def uptoBulkEntries {H : Type} : List (Lit × DataW H) → Nat
  | [] => 0
  | x :: r => uptoBulkEntry x + uptoBulkEntries r
def uptoBulkEntry {H : Type} : Lit × DataW H → Nat
  | (.string bytes, d) => bytes.length + uptoBulk d + 1
  | (_, d) => uptoBulk d + 1
 end
def uptoSmall : (H : Type) → List (DataW H) → Bool := fun _ ds => decide (uptoBulkAll ds ≤ 1048576)
def OpenSpec.upto (s : _root_.Go.ChangeSpec) : _root_.Go.OpenSpec := { _root_.Go.OpenSpec.ofChange s with cond := some uptoSmall }

/-- 'quadformlaw15.FingerprintProfiles', WHERE WHAT IT READS IS OF BULK AT MOST 1048576: true; the input reads as it did. -/
def fingerprintProfilesUptoRow : OpenClaim := { program := "ytcmkopogafchiaagreat", sum := "11ead11624f06d5ee466a9c55c1a0d7ea3cad07bf1555dd4c99ba8ee7dd9ed36", func := "quadform/quadformlaw15.FingerprintProfiles", spec := "fingerprintProfiles", inPlace := ["math/bits.Add64", "math/bits.Sub64"], unfollowed := true, recurses := true, plainKeys := false, apart := false, narrowed := true }
def FingerprintProfilesUptoSaid : Prop := fingerprintProfilesUptoRow.holds Tryz.pinned (OpenSpec.upto fingerprintProfilesSpec)

/-- 'quadformlaw15.FingerprintSignatures', WHERE WHAT IT READS IS OF BULK AT MOST 1048576: true; the input reads as it did. -/
def fingerprintSignaturesUptoRow : OpenClaim := { program := "ytcmkopogafchiaagreat", sum := "11ead11624f06d5ee466a9c55c1a0d7ea3cad07bf1555dd4c99ba8ee7dd9ed36", func := "quadform/quadformlaw15.FingerprintSignatures", spec := "fingerprintSignatures", inPlace := ["math/bits.Add64", "math/bits.Sub64"], unfollowed := true, recurses := true, plainKeys := false, apart := false, narrowed := true }
def FingerprintSignaturesUptoSaid : Prop := fingerprintSignaturesUptoRow.holds Tryz.pinned (OpenSpec.upto fingerprintSignaturesSpec)

/-- 'quadformlaw15.FingerprintCounts', WHERE WHAT IT READS IS OF BULK AT MOST 1048576: true; the input reads as it did. -/
def fingerprintCountsUptoRow : OpenClaim := { program := "ytcmkopogafchiaagreat", sum := "11ead11624f06d5ee466a9c55c1a0d7ea3cad07bf1555dd4c99ba8ee7dd9ed36", func := "quadform/quadformlaw15.FingerprintCounts", spec := "fingerprintCounts", inPlace := ["math/bits.Add64", "math/bits.Sub64"], unfollowed := true, recurses := true, plainKeys := false, apart := false, narrowed := true }
def FingerprintCountsUptoSaid : Prop := fingerprintCountsUptoRow.holds Tryz.pinned (OpenSpec.upto fingerprintCountsSpec)

/-- 'quadformlaw15.FingerprintInvariant', WHERE WHAT IT READS IS OF BULK AT MOST 1048576: true; the input reads as it did. -/
def fingerprintInvariantUptoRow : OpenClaim := { program := "ytcmkopogafchiaagreat", sum := "11ead11624f06d5ee466a9c55c1a0d7ea3cad07bf1555dd4c99ba8ee7dd9ed36", func := "quadform/quadformlaw15.FingerprintInvariant", spec := "fingerprintInvariant", inPlace := ["math/bits.Add64", "math/bits.Sub64"], unfollowed := true, recurses := true, plainKeys := false, apart := false, narrowed := true }
def FingerprintInvariantUptoSaid : Prop := fingerprintInvariantUptoRow.holds Tryz.pinned (OpenSpec.upto fingerprintInvariantSpec)

/-- 'quadformlaw15.FingerprintMoves', WHERE WHAT IT READS IS OF BULK AT MOST 1048576: true; the input reads as it did. -/
def fingerprintMovesUptoRow : OpenClaim := { program := "ytcmkopogafchiaagreat", sum := "11ead11624f06d5ee466a9c55c1a0d7ea3cad07bf1555dd4c99ba8ee7dd9ed36", func := "quadform/quadformlaw15.FingerprintMoves", spec := "fingerprintMoves", inPlace := ["math/bits.Add64", "math/bits.Sub64"], unfollowed := true, recurses := true, plainKeys := false, apart := false, narrowed := true }
def FingerprintMovesUptoSaid : Prop := fingerprintMovesUptoRow.holds Tryz.pinned (OpenSpec.upto fingerprintMovesSpec)

/-- 'quadformlaw15.FingerprintLess', WHERE WHAT IT READS IS OF BULK AT MOST 1048576: true; the input reads as it did. -/
def fingerprintLessUptoRow : OpenClaim := { program := "ytcmkopogafchiaagreat", sum := "11ead11624f06d5ee466a9c55c1a0d7ea3cad07bf1555dd4c99ba8ee7dd9ed36", func := "quadform/quadformlaw15.FingerprintLess", spec := "fingerprintLess", inPlace := ["math/bits.Add64", "math/bits.Sub64"], unfollowed := true, recurses := true, plainKeys := false, apart := false, narrowed := true }
def FingerprintLessUptoSaid : Prop := fingerprintLessUptoRow.holds Tryz.pinned (OpenSpec.upto fingerprintLessSpec)

/-- 'quadformlaw15.FingerprintErrors', WHERE WHAT IT READS IS OF BULK AT MOST 1048576: true; the input reads as it did. -/
def fingerprintErrorsUptoRow : OpenClaim := { program := "ytcmkopogafchiaagreat", sum := "11ead11624f06d5ee466a9c55c1a0d7ea3cad07bf1555dd4c99ba8ee7dd9ed36", func := "quadform/quadformlaw15.FingerprintErrors", spec := "fingerprintErrors", inPlace := ["math/bits.Add64", "math/bits.Sub64"], unfollowed := true, recurses := true, plainKeys := false, apart := false, narrowed := true }
def FingerprintErrorsUptoSaid : Prop := fingerprintErrorsUptoRow.holds Tryz.pinned (OpenSpec.upto fingerprintErrorsSpec)

/-- 'quadformlaw15.FingerprintClasses', WHERE WHAT IT READS IS OF BULK AT MOST 1048576: true; the input reads as it did. -/
def fingerprintClassesUptoRow : OpenClaim := { program := "ytcmkopogafchiaagreat", sum := "11ead11624f06d5ee466a9c55c1a0d7ea3cad07bf1555dd4c99ba8ee7dd9ed36", func := "quadform/quadformlaw15.FingerprintClasses", spec := "fingerprintClasses", inPlace := ["math/bits.Add64", "math/bits.Sub64"], unfollowed := true, recurses := true, plainKeys := false, apart := false, narrowed := true }
def FingerprintClassesUptoSaid : Prop := fingerprintClassesUptoRow.holds Tryz.pinned (OpenSpec.upto fingerprintClassesSpec)

/-- 'quadformlaw15.FingerprintEmpty', WHERE WHAT IT READS IS OF BULK AT MOST 1048576: true; the input reads as it did. -/
def fingerprintEmptyUptoRow : OpenClaim := { program := "ytcmkopogafchiaagreat", sum := "11ead11624f06d5ee466a9c55c1a0d7ea3cad07bf1555dd4c99ba8ee7dd9ed36", func := "quadform/quadformlaw15.FingerprintEmpty", spec := "fingerprintEmpty", inPlace := ["math/bits.Add64", "math/bits.Sub64"], unfollowed := true, recurses := true, plainKeys := false, apart := false, narrowed := true }
def FingerprintEmptyUptoSaid : Prop := fingerprintEmptyUptoRow.holds Tryz.pinned (OpenSpec.upto fingerprintEmptySpec)

/-- 'quadformlaw15.FingerprintGroups', WHERE WHAT IT READS IS OF BULK AT MOST 1048576: true; the input reads as it did. -/
def fingerprintGroupsUptoRow : OpenClaim := { program := "ytcmkopogafchiaagreat", sum := "11ead11624f06d5ee466a9c55c1a0d7ea3cad07bf1555dd4c99ba8ee7dd9ed36", func := "quadform/quadformlaw15.FingerprintGroups", spec := "fingerprintGroups", inPlace := ["math/bits.Add64", "math/bits.Sub64"], unfollowed := true, recurses := true, plainKeys := false, apart := false, narrowed := true }
def FingerprintGroupsUptoSaid : Prop := fingerprintGroupsUptoRow.holds Tryz.pinned (OpenSpec.upto fingerprintGroupsSpec)

end Rows
end Go.Proofs.YtcmkopogafchiaaGreat

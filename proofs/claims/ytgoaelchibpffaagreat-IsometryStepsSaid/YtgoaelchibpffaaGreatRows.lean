/-
  No cell of these rows narrows 'for every input' (looked for: loops, veiled, ifaces, maps, wideKeys, modest, calm, conditions, laid).
  DERIVED. THE GIVEN ROWS OF THIS SEAT. 5 by the template 'for every input the law returns true; each argument reads behind the call as it read before'; 0 by the template 'total and deterministic' (their statements: YtgoaelchibpffaaGreatTotals.lean).
  GIVEN WITH THE SEED: the statements are not yours to turn. If you find one false, say at which input.
  Laid BY PROGRAM, IN A SANDBOX (cutbox-rows.mjs): the forced cells as the released guide's own fill.sh prints them over the translation 7ac0750d1f548a26… (all of the seat's roots in one cut). By AI agents, Wed Nov 11 2026. No macro, syntax, notation, axiom, sorry.
-/
import Derived.Test.YtgoaelchibpffaaGreatChecked
import GoSem.Claim
import GoSem.ClaimJoined
import GoSem.ClaimMapViews
import Derived.JoinedTies
import Derived.KernelRfl
namespace Go.Proofs.YtgoaelchibpffaaGreat
/- THE CELL 'sum', in the pinned program and in every row, IS THE sha256 OF THE DUMP (.gsa) THAT YtgoaelchibpffaaGreatProg.lean LOADS. Nothing in Lean hashes anything: it is a label: what it is worth is what the hold of that sum in a sandbox is worth. -/
noncomputable def Tryz.pinned : Pinned := { name := "ytgoaelchibpffaagreat", sum := "7ac0750d1f548a2686b68c15670b95db40ad6919b668d914020e4f5ac50b34ea", checked := Tryz.checked }
namespace Rows
def none {H : Type} : Left H := { results := [], args := [] }

/-- 'quadformlaw18.IsometrySteps': WHATEVER THE INPUT: true; the input reads as it did. -/
def isometryStepsSpec : ChangeSpec := { name := "isometrySteps", fn := fun _ => fun
  | [d] => { results := [.lit (.bool true)], args := [d] }
  | _ => none }
def isometryStepsRow : OpenClaim := { program := "ytgoaelchibpffaagreat", sum := "7ac0750d1f548a2686b68c15670b95db40ad6919b668d914020e4f5ac50b34ea", func := "quadform/quadformlaw18.IsometrySteps", spec := "isometrySteps", inPlace := ["math/bits.Add64", "math/bits.Sub64"], unfollowed := true, recurses := true, apart := false }
def IsometryStepsSaid : Prop := isometryStepsRow.holds Tryz.pinned (OpenSpec.ofChange isometryStepsSpec)

/-- ITS FALSE NEIGHBOUR: 'it returns false'. Refute it at one input. -/
def isometryStepsWrong : ChangeSpec := { name := "isometrySteps", fn := fun _ => fun
  | [d] => { results := [.lit (.bool false)], args := [d] }
  | _ => none }
def IsometryStepsWrongFalsely : Prop := isometryStepsRow.holds Tryz.pinned (OpenSpec.ofChange isometryStepsWrong)

/-- 'quadformlaw18.IsometryVerifies': WHATEVER THE INPUT: true; the input reads as it did. -/
def isometryVerifiesSpec : ChangeSpec := { name := "isometryVerifies", fn := fun _ => fun
  | [d1, d2, d3, d4] => { results := [.lit (.bool true)], args := [d1, d2, d3, d4] }
  | _ => none }
def isometryVerifiesRow : OpenClaim := { program := "ytgoaelchibpffaagreat", sum := "7ac0750d1f548a2686b68c15670b95db40ad6919b668d914020e4f5ac50b34ea", func := "quadform/quadformlaw18.IsometryVerifies", spec := "isometryVerifies", inPlace := ["math/bits.Add64", "math/bits.Sub64"], unfollowed := true, recurses := true, apart := false }
def IsometryVerifiesSaid : Prop := isometryVerifiesRow.holds Tryz.pinned (OpenSpec.ofChange isometryVerifiesSpec)

/-- ITS FALSE NEIGHBOUR: 'it returns false'. Refute it at one input. -/
def isometryVerifiesWrong : ChangeSpec := { name := "isometryVerifies", fn := fun _ => fun
  | [d1, d2, d3, d4] => { results := [.lit (.bool false)], args := [d1, d2, d3, d4] }
  | _ => none }
def IsometryVerifiesWrongFalsely : Prop := isometryVerifiesRow.holds Tryz.pinned (OpenSpec.ofChange isometryVerifiesWrong)

/-- 'quadformlaw18.IsometryAccepts': WHATEVER THE INPUT: true; the input reads as it did. -/
def isometryAcceptsSpec : ChangeSpec := { name := "isometryAccepts", fn := fun _ => fun
  | [d] => { results := [.lit (.bool true)], args := [d] }
  | _ => none }
def isometryAcceptsRow : OpenClaim := { program := "ytgoaelchibpffaagreat", sum := "7ac0750d1f548a2686b68c15670b95db40ad6919b668d914020e4f5ac50b34ea", func := "quadform/quadformlaw18.IsometryAccepts", spec := "isometryAccepts", inPlace := ["math/bits.Add64", "math/bits.Sub64"], unfollowed := true, recurses := true, apart := false }
def IsometryAcceptsSaid : Prop := isometryAcceptsRow.holds Tryz.pinned (OpenSpec.ofChange isometryAcceptsSpec)

/-- ITS FALSE NEIGHBOUR: 'it returns false'. Refute it at one input. -/
def isometryAcceptsWrong : ChangeSpec := { name := "isometryAccepts", fn := fun _ => fun
  | [d] => { results := [.lit (.bool false)], args := [d] }
  | _ => none }
def IsometryAcceptsWrongFalsely : Prop := isometryAcceptsRow.holds Tryz.pinned (OpenSpec.ofChange isometryAcceptsWrong)

/-- 'quadformlaw18.IsometryEquivalence': WHATEVER THE INPUT: true; the input reads as it did. -/
def isometryEquivalenceSpec : ChangeSpec := { name := "isometryEquivalence", fn := fun _ => fun
  | [d1, d2] => { results := [.lit (.bool true)], args := [d1, d2] }
  | _ => none }
def isometryEquivalenceRow : OpenClaim := { program := "ytgoaelchibpffaagreat", sum := "7ac0750d1f548a2686b68c15670b95db40ad6919b668d914020e4f5ac50b34ea", func := "quadform/quadformlaw18.IsometryEquivalence", spec := "isometryEquivalence", inPlace := ["math/bits.Add64", "math/bits.Sub64"], unfollowed := true, recurses := true, apart := false }
def IsometryEquivalenceSaid : Prop := isometryEquivalenceRow.holds Tryz.pinned (OpenSpec.ofChange isometryEquivalenceSpec)

/-- ITS FALSE NEIGHBOUR: 'it returns false'. Refute it at one input. -/
def isometryEquivalenceWrong : ChangeSpec := { name := "isometryEquivalence", fn := fun _ => fun
  | [d1, d2] => { results := [.lit (.bool false)], args := [d1, d2] }
  | _ => none }
def IsometryEquivalenceWrongFalsely : Prop := isometryEquivalenceRow.holds Tryz.pinned (OpenSpec.ofChange isometryEquivalenceWrong)

/-- 'quadformlaw21.NonisoKnown': WHATEVER THE INPUT: true; the input reads as it did. -/
def nonisoKnownSpec : ChangeSpec := { name := "nonisoKnown", fn := fun _ => fun
  | [d1, d2] => { results := [.lit (.bool true)], args := [d1, d2] }
  | _ => none }
def nonisoKnownRow : OpenClaim := { program := "ytgoaelchibpffaagreat", sum := "7ac0750d1f548a2686b68c15670b95db40ad6919b668d914020e4f5ac50b34ea", func := "quadform/quadformlaw21.NonisoKnown", spec := "nonisoKnown", inPlace := ["math/bits.Add64", "math/bits.Sub64"], unfollowed := true, recurses := true, named := ["math/bits.divideError", "math/bits.overflowError"], apart := false }
def NonisoKnownSaid : Prop := nonisoKnownRow.holds Tryz.pinned (OpenSpec.ofChange nonisoKnownSpec)

/-- ITS FALSE NEIGHBOUR: 'it returns false'. Refute it at one input. -/
def nonisoKnownWrong : ChangeSpec := { name := "nonisoKnown", fn := fun _ => fun
  | [d1, d2] => { results := [.lit (.bool false)], args := [d1, d2] }
  | _ => none }
def NonisoKnownWrongFalsely : Prop := nonisoKnownRow.holds Tryz.pinned (OpenSpec.ofChange nonisoKnownWrong)

/- THE SECOND FORM. 'bulk': how many values and letters a reading holds, each counted each time it is reached (what is shared counts as often as it is met; a slice's spare places count too). A statement '..UptoSaid' is the law's where the arguments, and the package variables that the reading takes, are together of bulk at most 1048576: NARROWER than '..Said'. Prove '..Said' where nothing that the law and all that it calls make is longer than what came in: it says more and counts as full. Else prove '..UptoSaid'. A law counts once. -/
mutual
def uptoBulk {H : Type} : DataW H → Nat
  | .lit (.string bytes) => bytes.length + 1
  | .lit _ => 1
  | .nil => 1
  | .ptr d => uptoBulk d + 1
  | .slice elems spare => uptoBulkAll elems + uptoBulkAll spare + 1
  | .agg parts => uptoBulkAll parts + 1
  | .iface _ d => uptoBulk d + 1
  | .map entries => uptoBulkEntries entries + 1
  | .held _ => 1
def uptoBulkAll {H : Type} : List (DataW H) → Nat
  | [] => 0
  | d :: r => uptoBulk d + uptoBulkAll r
def uptoBulkEntries {H : Type} : List (Lit × DataW H) → Nat
  | [] => 0
  | x :: r => uptoBulkEntry x + uptoBulkEntries r
def uptoBulkEntry {H : Type} : Lit × DataW H → Nat
  | (.string bytes, d) => bytes.length + uptoBulk d + 1
  | (_, d) => uptoBulk d + 1
 end
def uptoSmall : (H : Type) → List (DataW H) → Bool := fun _ ds => decide (uptoBulkAll ds ≤ 1048576)
def OpenSpec.upto (s : _root_.Go.ChangeSpec) : _root_.Go.OpenSpec := { _root_.Go.OpenSpec.ofChange s with cond := some uptoSmall }

/-- 'quadformlaw18.IsometrySteps', WHERE WHAT IT READS IS OF BULK AT MOST 1048576: true; the input reads as it did. -/
def isometryStepsUptoRow : OpenClaim := { program := "ytgoaelchibpffaagreat", sum := "7ac0750d1f548a2686b68c15670b95db40ad6919b668d914020e4f5ac50b34ea", func := "quadform/quadformlaw18.IsometrySteps", spec := "isometrySteps", inPlace := ["math/bits.Add64", "math/bits.Sub64"], unfollowed := true, recurses := true, apart := false, narrowed := true }
def IsometryStepsUptoSaid : Prop := isometryStepsUptoRow.holds Tryz.pinned (OpenSpec.upto isometryStepsSpec)

/-- 'quadformlaw18.IsometryVerifies', WHERE WHAT IT READS IS OF BULK AT MOST 1048576: true; the input reads as it did. -/
def isometryVerifiesUptoRow : OpenClaim := { program := "ytgoaelchibpffaagreat", sum := "7ac0750d1f548a2686b68c15670b95db40ad6919b668d914020e4f5ac50b34ea", func := "quadform/quadformlaw18.IsometryVerifies", spec := "isometryVerifies", inPlace := ["math/bits.Add64", "math/bits.Sub64"], unfollowed := true, recurses := true, apart := false, narrowed := true }
def IsometryVerifiesUptoSaid : Prop := isometryVerifiesUptoRow.holds Tryz.pinned (OpenSpec.upto isometryVerifiesSpec)

/-- 'quadformlaw18.IsometryAccepts', WHERE WHAT IT READS IS OF BULK AT MOST 1048576: true; the input reads as it did. -/
def isometryAcceptsUptoRow : OpenClaim := { program := "ytgoaelchibpffaagreat", sum := "7ac0750d1f548a2686b68c15670b95db40ad6919b668d914020e4f5ac50b34ea", func := "quadform/quadformlaw18.IsometryAccepts", spec := "isometryAccepts", inPlace := ["math/bits.Add64", "math/bits.Sub64"], unfollowed := true, recurses := true, apart := false, narrowed := true }
def IsometryAcceptsUptoSaid : Prop := isometryAcceptsUptoRow.holds Tryz.pinned (OpenSpec.upto isometryAcceptsSpec)

/-- 'quadformlaw18.IsometryEquivalence', WHERE WHAT IT READS IS OF BULK AT MOST 1048576: true; the input reads as it did. -/
def isometryEquivalenceUptoRow : OpenClaim := { program := "ytgoaelchibpffaagreat", sum := "7ac0750d1f548a2686b68c15670b95db40ad6919b668d914020e4f5ac50b34ea", func := "quadform/quadformlaw18.IsometryEquivalence", spec := "isometryEquivalence", inPlace := ["math/bits.Add64", "math/bits.Sub64"], unfollowed := true, recurses := true, apart := false, narrowed := true }
def IsometryEquivalenceUptoSaid : Prop := isometryEquivalenceUptoRow.holds Tryz.pinned (OpenSpec.upto isometryEquivalenceSpec)

/-- 'quadformlaw21.NonisoKnown', WHERE WHAT IT READS IS OF BULK AT MOST 1048576: true; the input reads as it did. -/
def nonisoKnownUptoRow : OpenClaim := { program := "ytgoaelchibpffaagreat", sum := "7ac0750d1f548a2686b68c15670b95db40ad6919b668d914020e4f5ac50b34ea", func := "quadform/quadformlaw21.NonisoKnown", spec := "nonisoKnown", inPlace := ["math/bits.Add64", "math/bits.Sub64"], unfollowed := true, recurses := true, named := ["math/bits.divideError", "math/bits.overflowError"], apart := false, narrowed := true }
def NonisoKnownUptoSaid : Prop := nonisoKnownUptoRow.holds Tryz.pinned (OpenSpec.upto nonisoKnownSpec)

end Rows
end Go.Proofs.YtgoaelchibpffaaGreat

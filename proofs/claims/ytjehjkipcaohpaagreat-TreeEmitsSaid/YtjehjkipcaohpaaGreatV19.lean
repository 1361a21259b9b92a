/- R10d -/
import Derived.Test.YtjehjkipcaohpaaGreatProg
import Derived.Test.YtjehjkipcaohpaaGreatShelf
import Derived.Test.YtjehjkipcaohpaaGreatV18
set_option maxHeartbeats 8000000
set_option linter.unusedVariables false
set_option linter.unusedSimpArgs false
set_option linter.constructorNameAsVariable false
namespace Go.Proofs.YtjehjkipcaohpaaGreat
open Go.RowKit
open La
/-! ## Integers of at most 200000 bits -/
structure Bb (x:Int):Prop where
 bd:Bd 200000 x
section
variable {w1 w2 w:World} {g h:Bool} {A B:Option Addr} {n k c d:Nat} {x y:Int}
end
/-! ## The stage's rows -/
end Go.Proofs.YtjehjkipcaohpaaGreat

/- Cl Tl -/
import Derived.Test.YtjehjkipcaohpaaGreatRows
import Derived.Test.YtjehjkipcaohpaaGreatProg
import Derived.Test.YtjehjkipcaohpaaGreatS11
import Derived.Test.YtjehjkipcaohpaaGreatShelf
set_option maxHeartbeats 8000000
set_option linter.unusedVariables false
set_option linter.unusedSimpArgs false
set_option linter.constructorNameAsVariable false
namespace Go.Proofs.YtjehjkipcaohpaaGreat
set_option maxRecDepth 100000
def io:{L:List Char // Tryz.prog.initOrder.toList=L}:=⟨_,(congrArg String.toList (rfl:Tryz.prog.initOrder=String.ofList _)).trans String.toList_ofList⟩
theorem c_later:Tryz.prog.laysLater=false:=by kernel_rfl
theorem c_reflect:Tryz.prog.bearsReflect=false:=by kernel_rfl
theorem c_doors:Tryz.prog.doorRows=[]:=by kernel_rfl
theorem c_words : ∃ rest, behindMainWord (wordsSigns Tryz.prog.initOrder.toList) = "cut".toList :: rest := by
 rw [io.2]
 exact ⟨(behindMainWord (wordsSigns io.1)).tail,by kernel_rfl⟩
theorem make_of {P : Program} {m : Make} {rest : List (List Char)} (h : behindMainWord (wordsSigns P.initOrder.toList) = "cut".toList :: rest) (hm : m = .cut) : (P.make == some m) = true := by
 subst hm
 unfold Program.make
 rw [h]
 kernel_rfl
theorem lifts_of {P : Program} {b : Bool} {rest : List (List Char)} (h : behindMainWord (wordsSigns P.initOrder.toList) = "cut".toList :: rest) (hb : b = false) : (b == P.liftsFinal) = true := by
 subst hb
 unfold Program.liftsFinal Program.headLifts
 rw [h]
 kernel_rfl
theorem may_of {P : Program} {rest : List (List Char)} (h : behindMainWord (wordsSigns P.initOrder.toList) = "cut".toList :: rest) (h1 : P.laysLater = false) (h2 : P.bearsReflect = false) (h3 : P.doorRows = []) : P.mayEnter = true := by
 unfold Program.mayEnter Program.doorFits
 rw [h,h1,h2,h3]
 kernel_rfl
theorem c_may:Tryz.prog.mayEnter=true:=by
 obtain ⟨rest,h⟩:=c_words
 exact may_of h c_later c_reflect c_doors
theorem c_make {m:Make} (hm:m= .cut):(Tryz.prog.make==some m)=true:=by
 obtain ⟨rest,h⟩:=c_words
 exact make_of h hm
theorem c_lifts {b:Bool} (hb:b=false):(b==Tryz.prog.liftsFinal)=true:=by
 obtain ⟨rest,h⟩:=c_words
 exact lifts_of h hb
theorem and_mk {a b:Bool} (ha:a=true) (hb:b=true):(a&&b)=true:=by rw [ha,hb];rfl
end Go.Proofs.YtjehjkipcaohpaaGreat
namespace Go.Proofs.YtjehjkipcaohpaaGreat
open La
def tLo (m:List (List Int)) (b:Int) (k:Nat) (t:List Int):Int:=vLo (minorsTo m m.length) (lamTo m m.length) k (left (ent m) b (k+1) t) t
def tHi (m:List (List Int)) (b:Int) (k:Nat) (t:List Int):Int:=vHi (minorsTo m m.length) (lamTo m m.length) k (left (ent m) b (k+1) t) t
def tCnt (m:List (List Int)) (b:Int) (k:Nat) (t:List Int):Nat:=(tHi m b k t-tLo m b k t+1).toNat
end Go.Proofs.YtjehjkipcaohpaaGreat

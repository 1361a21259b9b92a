/-
  The last step of a law's row, where the run has only made new memory.
-/
import Derived.Test.YtaaldapmkhamlaaGreatBase
import Derived.ProofKit
import Derived.OpenShut
namespace Go.Proofs.YtaaldapmkhamlaaGreat
open Go.ChangeShapes Go.WideShapes Go.ChangeAt Go.RowKit
/-- What a row asks of a law whose run has only made new memory, and which lists no variables. -/
theorem law_post {H : Type} {enc : TypeId × Value → H} {P : Program} {f : Func} {s : ChangeSpec} {ap fr ho ag : Bool} {W W' : World} {args : Array Value} {v : Value} {ds gs : List (DataW H)} {before : List MemPlace}
    (hW : DataW.Whole enc P f.params.toList s.vars ap W args.toList ds gs before)
    (hr : ∀ (b : Nat) (sp : Nat → Bool) (hd : Bool), DataW.TrodAll enc P W' b sp hd f.resultTypes.toList (v.resultList f.resultTypes.size) (s.fn H (ds ++ gs)).results [])
    (ha : ∀ sp : Nat → Bool, (∀ p ∈ before, sp p.block = true) → DataW.TrodAll enc P W' 0 sp true f.params.toList args.toList (s.fn H (ds ++ gs)).args before)
    (hv : ∀ sp : Nat → Bool, DataW.TrodVars enc P W' sp s.vars (s.fn H (ds ++ gs)).vars [])
    (hb : Below W.heap.size W W')
    (hok : ∀ (j : Nat) (t : TypeId) (r : Value), f.resultTypes[j]? = some t → (v.resultList f.resultTypes.size)[j]? = some r → Value.okWide P W' .any 0 t r) :
    s.post enc P f ap fr ho ag W args v W' := by
  have old : ∀ p ∈ before, p.block < W.heap.size := fun p hp => hW.lt p hp
  have kept : W.keptBut W' fun p => p ∈ before ∧ (p ∈ ([] : List MemPlace) ∨ p ∈ before ++ []) := World.keptBut_mono (fun p hp => ⟨hp, .inr (by simpa using hp)⟩) (hb.frame (· ∈ before))
  refine ⟨ds, gs, before, [], before, [], hW, hr _ _ _, ha _ (fun p hp => by simpa using old p hp), hv _, ?_, fun _ => ⟨hok, ?_⟩⟩
  · refine World.keptBut_mono (fun p hp => ?_) kept
    exact ⟨hp.1, by simpa using hp.1⟩
  · obtain ⟨_, _, _, _, _, hz, hn⟩ := hW
    have hall := trodAll_append (ha (fun _ => true) (fun _ _ => rfl)) (hr 0 (fun _ => true) true)
    rw [List.nil_append] at hall
    refine ⟨_, _, before ++ [], ⟨before, [], hall, hv _, rfl, fun b off hp => ?_, fun h => by simpa using hn h⟩, fun p hp _ => by simpa using hp⟩
    have hin : MemPlace.cell b off ∈ before := by simpa using hp
    rw [hb.frozen (old _ hin)]
    exact hz b off hin
end Go.Proofs.YtaaldapmkhamlaaGreat

/-
  IsometrySteps: each column of an isometry is a candidate for the columns ahead of it. No conditions.
-/
import Derived.Test.YtgoaelchibpffaaGreatT30
import Derived.Test.YtgoaelchibpffaaGreatTSh
import Derived.Test.YtgoaelchibpffaaGreatRows
set_option maxHeartbeats 8000000
set_option linter.unusedVariables false
set_option linter.unusedSimpArgs false
set_option linter.constructorNameAsVariable false
namespace Go.Proofs.YtgoaelchibpffaaGreat.isometrySteps
open Go.ChangeShapes Go.WideShapes Go.ChangeAt Go.RowKit
set_option linter.unusedVariables false

theorem own : ownKnob Tryz.prog.godebug = none := by kernel_rfl

theorem walk (w : World) (v0 : Value) (L0 : Latt w v0) :
    Calls Tryz.prog 3 #[v0] w fun e w' => e = .returned (.bool true) ∧ Below w.heap.size w w' := by
  rw [L0.eq];exact (zq7 L0.ints L0.i8 L0.len L0.bints L0.bi8 L0.blen L0.dim0 L0.dim1 L0.kind0 L0.kind1).mono fun e w' ⟨he, hs⟩ => ⟨he, hs.below⟩
set_option maxRecDepth 100000 in
theorem lifted (os : Os) (started : os.Started) (H : Type) (enc : TypeId × Value → H) :
    ReturnsInHanded {} Tryz.checked os 3 .any (Rows.isometryStepsSpec.pre6 enc Tryz.prog Tryz.f3 Rows.isometryStepsRow.domain false) (Rows.isometryStepsSpec.post enc Tryz.prog Tryz.f3 false true false false) := by
  refine returnsInHanded_of_change (C := Tryz.checked) own started ai Tryz.func3
    (ChangeSpec.witness6 (enc := enc) (C := Tryz.checked) false ⟨#[], #[.agg #[.int .u8 0, .int .u8 0, .slice none 0 0, .slice none 0 0]], []⟩ 8 ai ai ai ai) ?_
  intro W ze args ds gs before hval0 hW hcnd _;have hval : ∀ (j : Nat) t v, Tryz.f3.params[j]? = some t → args[j]? = some v → Value.okWide Tryz.prog W .any ze t v := hval0;have hW' := hW;obtain ⟨p, q, hA0, hV, rfl, hfz, hnd⟩ := hW;have hA : DataW.TrodAll enc Tryz.prog W 0 (fun _ => true) true Tryz.f3.params.toList args.toList ds p := hA0;rw [Tryz.params3] at hA hval;obtain ⟨v0, vs0, d0, ds0, p0, q0, g0, rfl, rfl, h0, r0⟩ := trodAll_cons hA
  obtain ⟨rfl, rfl, rfl⟩ := trodAll_nil r0;obtain rfl : args = #[v0] := by cases args; simp_all
  obtain ⟨rfl, rfl⟩ := trodVars_none hV;obtain ⟨⟨L0⟩, S0⟩ := zoD (hval 0 24 v0 rfl rfl) h0;clear hA0 hval0;simp only [List.append_nil, List.nil_append] at hW';refine (walk W v0 L0).mono fun e W' ⟨he, hg⟩ => ?_
  subst he;refine ⟨_, rfl, zmv (s := Rows.isometryStepsSpec) hW' (fun _ _ _ => trodAll_cons_mk (shut_bool Tryz.underlying4 _) trodAll_mk0) (fun sp hs => by have hA2 := trodAll_cons_mk (S0 W' sp hg (fun q hq => hs q (by simp [hq]))) trodAll_mk0; simp only [List.append_nil, List.nil_append] at hA2; exact hA2) (fun _ => rfl) hg (ok_one ai rfl (okWide_bool_mk Tryz.underlying4 _))⟩

theorem k_inPlace : (Rows.isometryStepsRow.inPlace == Tryz.prog.inPlace 3) = true := by kernel_rfl
theorem k_unfollowed : (Rows.isometryStepsRow.unfollowed == Tryz.prog.unfollowed 3) = true := by kernel_rfl
theorem k_recurses : (Rows.isometryStepsRow.recurses == Tryz.prog.recurses 3) = true := by kernel_rfl
theorem k_named : (Rows.isometryStepsRow.named == Tryz.prog.varsNamed 3) = true := by kernel_rfl
theorem closed : joinedFacts Tryz.prog 3 Tryz.f3 Rows.isometryStepsSpec Rows.isometryStepsRow = true := by
  unfold joinedFacts;refine ZW (ZW (ZW (ZW (ZW (ZW (ZW (ZW (ZW (ZW (ZW (ZW (ZW (ZW (ZW (ZW (ZW (ZW (ZW (ZW (ZW (ZW (ZW ?_ k_inPlace) k_unfollowed) k_recurses) k_named) ?_) ?_) ?_) ?_) ?_) ?_) ?_) ?_) ?_) ?_) ?_) ?_) zoK) (zoM rfl)) (zoL rfl)) ?_) ?_) ?_) ?_
  all_goals (as_aux_lemma => kernel_rfl)
theorem over : Rows.isometryStepsRow.holds Tryz.pinned (OpenSpec.ofChange Rows.isometryStepsSpec) :=
  OpenClaim.holds_of_wide 3 Tryz.f3 rfl rfl rfl rfl rfl rfl rfl ⟨rfl, rfl, rfl, rfl, rfl⟩ rfl rfl rfl rfl rfl ai Tryz.func3 closed
    (of_decide_eq_true ai) (by unfold Func.isWrapper; first | (rw [if_pos (by decide +kernel)]; kernel_rfl) | (rw [if_neg (by decide +kernel)]; exact ⟨rfl, rfl⟩))
    (fun os started H enc _ => lifted os started H enc)

/-- ████ THE STATEMENT ████ -/
theorem proved : Rows.IsometryStepsSaid :=
  over
#print axioms proved
end Go.Proofs.YtgoaelchibpffaaGreat.isometrySteps

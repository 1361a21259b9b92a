/-
  FingerprintClasses: the class of each vector of the list. No conditions.
-/
import Derived.Test.YtpcgfpmiphiacaaGreatC28
import Derived.Test.YtpcgfpmiphiacaaGreatCSh
import Derived.Test.YtpcgfpmiphiacaaGreatRows
set_option maxHeartbeats 8000000
set_option linter.unusedVariables false
set_option linter.unusedSimpArgs false
set_option linter.constructorNameAsVariable false
namespace Go.Proofs.YtpcgfpmiphiacaaGreat.fingerprintClasses
open Go.ChangeShapes Go.WideShapes Go.ChangeAt Go.RowKit
set_option linter.unusedVariables false

theorem own : ownKnob Tryz.prog.godebug = none := by kernel_rfl

theorem walk (w : World) (v0 : Value) (a1 : Int) (L0 : Latt w v0) (w1 : (Lit.int .u8 a1).wf = true) :
    Calls Tryz.prog 3 #[v0, .int .u8 a1] w fun e w' => e = .returned (.bool true) ∧ Below w.heap.size w w' := by
  rw [L0.eq];have b1 : 0 ≤ a1 ∧ a1 < 256 := by
    have h := w1;have e1 : IntKind.u8.min = 0 := rfl;have e2 : IntKind.u8.max = 256 - 1 := rfl;simp [Lit.wf] at h;omega
  exact (zqV L0.ints L0.i8 L0.len L0.dim0 L0.dim1 L0.kind0 L0.kind1 b1.1 b1.2).mono fun e w' ⟨he, hs⟩ => ⟨he, hs.below⟩
set_option maxRecDepth 100000 in
theorem lifted (os : Os) (started : os.Started) (H : Type) (enc : TypeId × Value → H) :
    ReturnsInHanded {} Tryz.checked os 3 .any (Rows.fingerprintClassesSpec.pre6 enc Tryz.prog Tryz.f3 Rows.fingerprintClassesRow.domain false) (Rows.fingerprintClassesSpec.post enc Tryz.prog Tryz.f3 false true false false) := by
  refine returnsInHanded_of_change (C := Tryz.checked) own started (by kernel_rfl) Tryz.func3
    (ChangeSpec.witness6 (enc := enc) (C := Tryz.checked) false ⟨#[], #[.agg #[.int .u8 0, .int .u8 0, .slice none 0 0, .slice none 0 0], .int .u8 0], []⟩ 8 (by kernel_rfl) (by kernel_rfl) (by kernel_rfl) (by kernel_rfl)) ?_
  intro W zf args ds gs before hval0 hW hcnd _;have hval : ∀ (j : Nat) t v, Tryz.f3.params[j]? = some t → args[j]? = some v → Value.okWide Tryz.prog W .any zf t v := hval0;have hW' := hW;obtain ⟨p, q, hA0, hV, rfl, hfz, hnd⟩ := hW;have hA : DataW.TrodAll enc Tryz.prog W 0 (fun _ => true) true Tryz.f3.params.toList args.toList ds p := hA0;rw [Tryz.params3] at hA hval;obtain ⟨v0, vs0, d0, ds0, p0, q0, g0, rfl, rfl, h0, r0⟩ := trodAll_cons hA
  obtain ⟨v1, vs1, d1, ds1, p1, q1, g1, rfl, rfl, h1, r1⟩ := trodAll_cons r0;obtain ⟨rfl, rfl, rfl⟩ := trodAll_nil r1;obtain rfl : args = #[v0, v1] := by cases args; simp_all
  obtain ⟨rfl, rfl⟩ := trodVars_none hV;obtain ⟨⟨L0⟩, S0⟩ := zpi (hval 0 24 v0 rfl rfl) h0;obtain ⟨a1, rfl, rfl, rfl, w1⟩ := open_int Tryz.underlying5 (hval 1 5 v1 rfl rfl) h1;clear hA0 hval0;simp only [List.append_nil, List.nil_append] at hW';refine (walk W v0 a1 L0 w1).mono fun e W' ⟨he, hg⟩ => ?_
  subst he;refine ⟨_, rfl, zmh (s := Rows.fingerprintClassesSpec) hW' (fun _ _ _ => trodAll_cons_mk (shut_bool Tryz.underlying4 _) trodAll_mk0) (fun sp hs => by have hA2 := trodAll_cons_mk (S0 W' sp hg (fun q hq => hs q (by simp [hq]))) (trodAll_cons_mk (shut_int Tryz.underlying5 w1) trodAll_mk0); simp only [List.append_nil, List.nil_append] at hA2; exact hA2) (fun _ => rfl) hg (ok_one (by kernel_rfl) rfl (okWide_bool_mk Tryz.underlying4 _))⟩

theorem k_inPlace : (Rows.fingerprintClassesRow.inPlace == Tryz.prog.inPlace 3) = true := by kernel_rfl
theorem k_unfollowed : (Rows.fingerprintClassesRow.unfollowed == Tryz.prog.unfollowed 3) = true := by kernel_rfl
theorem k_recurses : (Rows.fingerprintClassesRow.recurses == Tryz.prog.recurses 3) = true := by kernel_rfl
theorem k_named : (Rows.fingerprintClassesRow.named == Tryz.prog.varsNamed 3) = true := by kernel_rfl
theorem closed : joinedFacts Tryz.prog 3 Tryz.f3 Rows.fingerprintClassesSpec Rows.fingerprintClassesRow = true := by
  unfold joinedFacts;refine ZZ (ZZ (ZZ (ZZ (ZZ (ZZ (ZZ (ZZ (ZZ (ZZ (ZZ (ZZ (ZZ (ZZ (ZZ (ZZ (ZZ (ZZ (ZZ (ZZ (ZZ (ZZ (ZZ ?_ k_inPlace) k_unfollowed) k_recurses) k_named) ?_) ?_) ?_) ?_) ?_) ?_) ?_) ?_) ?_) ?_) ?_) ?_) zpp) (zpr rfl)) (zpq rfl)) ?_) ?_) ?_) ?_
  all_goals (as_aux_lemma => kernel_rfl)
theorem over : Rows.fingerprintClassesRow.holds Tryz.pinned (OpenSpec.ofChange Rows.fingerprintClassesSpec) :=
  OpenClaim.holds_of_wide 3 Tryz.f3 rfl rfl rfl rfl rfl rfl rfl ⟨rfl, rfl, rfl, rfl, rfl⟩ rfl rfl rfl rfl rfl (by kernel_rfl) Tryz.func3 closed
    (of_decide_eq_true (by kernel_rfl)) (by unfold Func.isWrapper; first | (rw [if_pos (by decide +kernel)]; kernel_rfl) | (rw [if_neg (by decide +kernel)]; exact ⟨rfl, rfl⟩))
    (fun os started H enc _ => lifted os started H enc)

/-- ████ THE STATEMENT ████ -/
theorem proved : Rows.FingerprintClassesSaid :=
  over
#print axioms proved
end Go.Proofs.YtpcgfpmiphiacaaGreat.fingerprintClasses

/-
  FingerprintLess: which profile comes first, for all lists. No conditions.
-/
import Derived.Test.YtcmkopogafchiaaGreatXL01
import Derived.Test.YtcmkopogafchiaaGreatShelf
import Derived.Test.YtcmkopogafchiaaGreatRows
set_option maxHeartbeats 8000000
set_option linter.unusedVariables false
set_option linter.unusedSimpArgs false
set_option linter.constructorNameAsVariable false
namespace Go.Proofs.YtcmkopogafchiaaGreat.fingerprintLess
open Go.ChangeShapes Go.WideShapes Go.ChangeAt Go.RowKit
set_option linter.unusedVariables false

theorem own : ownKnob Tryz.prog.godebug = none := by kernel_rfl

theorem walk (w : World) (v0 : Value) (v1 : Value) (a2 : Int) (L0 : CtA w v0) (L1 : CtA w v1) (w2 : (Lit.int .u8 a2).wf = true) :
    Calls Tryz.prog 8 #[v0, v1, .int .u8 a2] w fun e w' => e = .returned (.bool true) ∧ Below w.heap.size w w' := by
  rw [L0.eq]
  rw [L1.eq]
  have b2 : 0 ≤ a2 ∧ a2 < 256 := by
    have h := w2
    have e1 : IntKind.u8.min = 0 := rfl
    have e2 : IntKind.u8.max = 256 - 1 := rfl
    simp [Lit.wf] at h
    omega
  exact (FingerprintLess_any L0.ct L0.len L0.cap L1.ct L1.len L1.cap b2.1 b2.2).mono fun e w' ⟨he, hs⟩ => ⟨he, hs.below⟩
set_option maxRecDepth 100000 in
theorem lifted (os : Os) (started : os.Started) (H : Type) (enc : TypeId × Value → H) :
    ReturnsInHanded {} Tryz.checked os 8 .any (Rows.fingerprintLessSpec.pre6 enc Tryz.prog Tryz.f8 Rows.fingerprintLessRow.domain false) (Rows.fingerprintLessSpec.post enc Tryz.prog Tryz.f8 false true false false) := by
  refine returnsInHanded_of_change (C := Tryz.checked) own started (by kernel_rfl) Tryz.func8
    (ChangeSpec.witness6 (enc := enc) (C := Tryz.checked) false ⟨#[], #[.slice none 0 0, .slice none 0 0, .int .u8 0], []⟩ 8 (by kernel_rfl) (by kernel_rfl) (by kernel_rfl) (by kernel_rfl)) ?_
  intro W base args ds gs before hval0 hW hcnd _
  have hval : ∀ (j : Nat) t v, Tryz.f8.params[j]? = some t → args[j]? = some v → Value.okWide Tryz.prog W .any base t v := hval0
  have hW' := hW
  obtain ⟨p, q, hA0, hV, rfl, hfz, hnd⟩ := hW
  have hA : DataW.TrodAll enc Tryz.prog W 0 (fun _ => true) true Tryz.f8.params.toList args.toList ds p := hA0
  rw [Tryz.params8] at hA hval
  obtain ⟨v0, vs0, d0, ds0, p0, q0, g0, rfl, rfl, h0, r0⟩ := trodAll_cons hA
  obtain ⟨v1, vs1, d1, ds1, p1, q1, g1, rfl, rfl, h1, r1⟩ := trodAll_cons r0
  obtain ⟨v2, vs2, d2, ds2, p2, q2, g2, rfl, rfl, h2, r2⟩ := trodAll_cons r1
  obtain ⟨rfl, rfl, rfl⟩ := trodAll_nil r2
  obtain rfl : args = #[v0, v1, v2] := by cases args; simp_all
  obtain ⟨rfl, rfl⟩ := trodVars_none hV
  obtain ⟨⟨L0⟩, S0⟩ := open_ctA (hval 0 30 v0 rfl rfl) h0
  obtain ⟨⟨L1⟩, S1⟩ := open_ctA (hval 1 30 v1 rfl rfl) h1
  obtain ⟨a2, rfl, rfl, rfl, w2⟩ := open_int Tryz.underlying5 (hval 2 5 v2 rfl rfl) h2
  clear hA0 hval0
  simp only [List.append_nil, List.nil_append] at hW'
  refine (walk W v0 v1 a2 L0 L1 w2).mono fun e W' ⟨he, hg⟩ => ?_
  subst he
  refine ⟨_, rfl, law_post (s := Rows.fingerprintLessSpec) hW' (fun _ _ _ => trodAll_cons_mk (shut_bool Tryz.underlying4 _) trodAll_mk0) (fun sp hs => by have hA2 := trodAll_cons_mk (S0 W' sp hg (fun q hq => hs q (by simp [hq]))) (trodAll_cons_mk (S1 W' sp hg (fun q hq => hs q (by simp [hq]))) (trodAll_cons_mk (shut_int Tryz.underlying5 w2) trodAll_mk0)); simp only [List.append_nil, List.nil_append] at hA2; exact hA2) (fun _ => rfl) hg (ok_one (by kernel_rfl) rfl (okWide_bool_mk Tryz.underlying4 _))⟩

theorem k_inPlace : (Rows.fingerprintLessRow.inPlace == Tryz.prog.inPlace 8) = true := by kernel_rfl
theorem k_unfollowed : (Rows.fingerprintLessRow.unfollowed == Tryz.prog.unfollowed 8) = true := by kernel_rfl
theorem k_recurses : (Rows.fingerprintLessRow.recurses == Tryz.prog.recurses 8) = true := by kernel_rfl
theorem k_named : (Rows.fingerprintLessRow.named == Tryz.prog.varsNamed 8) = true := by kernel_rfl
/-- The closed facts of the statement, in parts: the kernel's memory. -/
theorem closed : joinedFacts Tryz.prog 8 Tryz.f8 Rows.fingerprintLessSpec Rows.fingerprintLessRow = true := by
  unfold joinedFacts
  refine and_mk (and_mk (and_mk (and_mk (and_mk (and_mk (and_mk (and_mk (and_mk (and_mk (and_mk (and_mk (and_mk (and_mk (and_mk (and_mk (and_mk (and_mk (and_mk (and_mk (and_mk (and_mk (and_mk ?_ k_inPlace) k_unfollowed) k_recurses) k_named) ?_) ?_) ?_) ?_) ?_) ?_) ?_) ?_) ?_) ?_) ?_) ?_) c_may) (c_lifts rfl)) (c_make rfl)) ?_) ?_) ?_) ?_
  all_goals (as_aux_lemma => kernel_rfl)
theorem over : Rows.fingerprintLessRow.holds Tryz.pinned (OpenSpec.ofChange Rows.fingerprintLessSpec) :=
  OpenClaim.holds_of_wide 8 Tryz.f8 rfl rfl rfl rfl rfl rfl rfl ⟨rfl, rfl, rfl, rfl, rfl⟩ rfl rfl rfl rfl rfl (by kernel_rfl) Tryz.func8 closed
    (of_decide_eq_true (by kernel_rfl)) (by unfold Func.isWrapper; first | (rw [if_pos (by decide +kernel)]; kernel_rfl) | (rw [if_neg (by decide +kernel)]; exact ⟨rfl, rfl⟩))
    (fun os started H enc _ => lifted os started H enc)

/-- ████ THE STATEMENT ████ -/
theorem proved : Rows.FingerprintLessSaid :=
  over
#print axioms proved
end Go.Proofs.YtcmkopogafchiaaGreat.fingerprintLess

/-
  FingerprintMoves: an exchange of two basis vectors of a form takes profiles along. No conditions.
-/
import Derived.Test.YtcmkopogafchiaaGreatXM03
import Derived.Test.YtcmkopogafchiaaGreatShelf
import Derived.Test.YtcmkopogafchiaaGreatRows
set_option maxHeartbeats 8000000
set_option linter.unusedVariables false
set_option linter.unusedSimpArgs false
set_option linter.constructorNameAsVariable false
namespace Go.Proofs.YtcmkopogafchiaaGreat.fingerprintMoves
open Go.ChangeShapes Go.WideShapes Go.ChangeAt Go.RowKit
set_option linter.unusedVariables false

theorem own : ownKnob Tryz.prog.godebug = none := by kernel_rfl

theorem walk (w : World) (a0 : Int) (a1 : Int) (a2 : Int) (v3 : Value) (w0 : (Lit.int .u8 a0).wf = true) (w1 : (Lit.int .u8 a1).wf = true) (w2 : (Lit.int .u8 a2).wf = true) (L3 : I8A w v3) :
    Calls Tryz.prog 7 #[.int .u8 a0, .int .u8 a1, .int .u8 a2, v3] w fun e w' => e = .returned (.bool true) ∧ Below w.heap.size w w' := by
  have b0 : 0 ≤ a0 ∧ a0 < 256 := by
    have h := w0
    have e1 : IntKind.u8.min = 0 := rfl
    have e2 : IntKind.u8.max = 256 - 1 := rfl
    simp [Lit.wf] at h
    omega
  have b1 : 0 ≤ a1 ∧ a1 < 256 := by
    have h := w1
    have e1 : IntKind.u8.min = 0 := rfl
    have e2 : IntKind.u8.max = 256 - 1 := rfl
    simp [Lit.wf] at h
    omega
  have b2 : 0 ≤ a2 ∧ a2 < 256 := by
    have h := w2
    have e1 : IntKind.u8.min = 0 := rfl
    have e2 : IntKind.u8.max = 256 - 1 := rfl
    simp [Lit.wf] at h
    omega
  rw [L3.eq]
  exact (FingerprintMoves_any b0.1 b0.2 b1.1 b1.2 b2.1 b2.2 L3.ints L3.i8 L3.len).mono fun e w' ⟨he, hs⟩ => ⟨he, hs.below⟩
set_option maxRecDepth 100000 in
theorem lifted (os : Os) (started : os.Started) (H : Type) (enc : TypeId × Value → H) :
    ReturnsInHanded {} Tryz.checked os 7 .any (Rows.fingerprintMovesSpec.pre6 enc Tryz.prog Tryz.f7 Rows.fingerprintMovesRow.domain false) (Rows.fingerprintMovesSpec.post enc Tryz.prog Tryz.f7 false true false false) := by
  refine returnsInHanded_of_change (C := Tryz.checked) own started (by kernel_rfl) Tryz.func7
    (ChangeSpec.witness6 (enc := enc) (C := Tryz.checked) false ⟨#[], #[.int .u8 0, .int .u8 0, .int .u8 0, .slice none 0 0], []⟩ 8 (by kernel_rfl) (by kernel_rfl) (by kernel_rfl) (by kernel_rfl)) ?_
  intro W base args ds gs before hval0 hW hcnd _
  have hval : ∀ (j : Nat) t v, Tryz.f7.params[j]? = some t → args[j]? = some v → Value.okWide Tryz.prog W .any base t v := hval0
  have hW' := hW
  obtain ⟨p, q, hA0, hV, rfl, hfz, hnd⟩ := hW
  have hA : DataW.TrodAll enc Tryz.prog W 0 (fun _ => true) true Tryz.f7.params.toList args.toList ds p := hA0
  rw [Tryz.params7] at hA hval
  obtain ⟨v0, vs0, d0, ds0, p0, q0, g0, rfl, rfl, h0, r0⟩ := trodAll_cons hA
  obtain ⟨v1, vs1, d1, ds1, p1, q1, g1, rfl, rfl, h1, r1⟩ := trodAll_cons r0
  obtain ⟨v2, vs2, d2, ds2, p2, q2, g2, rfl, rfl, h2, r2⟩ := trodAll_cons r1
  obtain ⟨v3, vs3, d3, ds3, p3, q3, g3, rfl, rfl, h3, r3⟩ := trodAll_cons r2
  obtain ⟨rfl, rfl, rfl⟩ := trodAll_nil r3
  obtain rfl : args = #[v0, v1, v2, v3] := by cases args; simp_all
  obtain ⟨rfl, rfl⟩ := trodVars_none hV
  obtain ⟨a0, rfl, rfl, rfl, w0⟩ := open_int Tryz.underlying5 (hval 0 5 v0 rfl rfl) h0
  obtain ⟨a1, rfl, rfl, rfl, w1⟩ := open_int Tryz.underlying5 (hval 1 5 v1 rfl rfl) h1
  obtain ⟨a2, rfl, rfl, rfl, w2⟩ := open_int Tryz.underlying5 (hval 2 5 v2 rfl rfl) h2
  obtain ⟨⟨L3⟩, S3⟩ := open_i8A (hval 3 22 v3 rfl rfl) h3
  clear hA0 hval0
  simp only [List.append_nil, List.nil_append] at hW'
  refine (walk W a0 a1 a2 v3 w0 w1 w2 L3).mono fun e W' ⟨he, hg⟩ => ?_
  subst he
  refine ⟨_, rfl, law_post (s := Rows.fingerprintMovesSpec) hW' (fun _ _ _ => trodAll_cons_mk (shut_bool Tryz.underlying4 _) trodAll_mk0) (fun sp hs => by have hA2 := trodAll_cons_mk (shut_int Tryz.underlying5 w0) (trodAll_cons_mk (shut_int Tryz.underlying5 w1) (trodAll_cons_mk (shut_int Tryz.underlying5 w2) (trodAll_cons_mk (S3 W' sp hg (fun q hq => hs q (by simp [hq]))) trodAll_mk0))); simp only [List.append_nil, List.nil_append] at hA2; exact hA2) (fun _ => rfl) hg (ok_one (by kernel_rfl) rfl (okWide_bool_mk Tryz.underlying4 _))⟩

theorem k_inPlace : (Rows.fingerprintMovesRow.inPlace == Tryz.prog.inPlace 7) = true := by kernel_rfl
theorem k_unfollowed : (Rows.fingerprintMovesRow.unfollowed == Tryz.prog.unfollowed 7) = true := by kernel_rfl
theorem k_recurses : (Rows.fingerprintMovesRow.recurses == Tryz.prog.recurses 7) = true := by kernel_rfl
theorem k_named : (Rows.fingerprintMovesRow.named == Tryz.prog.varsNamed 7) = true := by kernel_rfl
/-- The closed facts of the statement, in parts: the kernel's memory. -/
theorem closed : joinedFacts Tryz.prog 7 Tryz.f7 Rows.fingerprintMovesSpec Rows.fingerprintMovesRow = true := by
  unfold joinedFacts
  refine and_mk (and_mk (and_mk (and_mk (and_mk (and_mk (and_mk (and_mk (and_mk (and_mk (and_mk (and_mk (and_mk (and_mk (and_mk (and_mk (and_mk (and_mk (and_mk (and_mk (and_mk (and_mk (and_mk ?_ k_inPlace) k_unfollowed) k_recurses) k_named) ?_) ?_) ?_) ?_) ?_) ?_) ?_) ?_) ?_) ?_) ?_) ?_) c_may) (c_lifts rfl)) (c_make rfl)) ?_) ?_) ?_) ?_
  all_goals (as_aux_lemma => kernel_rfl)
theorem over : Rows.fingerprintMovesRow.holds Tryz.pinned (OpenSpec.ofChange Rows.fingerprintMovesSpec) :=
  OpenClaim.holds_of_wide 7 Tryz.f7 rfl rfl rfl rfl rfl rfl rfl ⟨rfl, rfl, rfl, rfl, rfl⟩ rfl rfl rfl rfl rfl (by kernel_rfl) Tryz.func7 closed
    (of_decide_eq_true (by kernel_rfl)) (by unfold Func.isWrapper; first | (rw [if_pos (by decide +kernel)]; kernel_rfl) | (rw [if_neg (by decide +kernel)]; exact ⟨rfl, rfl⟩))
    (fun os started H enc _ => lifted os started H enc)

/-- ████ THE STATEMENT ████ -/
theorem proved : Rows.FingerprintMovesSaid :=
  over
#print axioms proved
end Go.Proofs.YtcmkopogafchiaaGreat.fingerprintMoves

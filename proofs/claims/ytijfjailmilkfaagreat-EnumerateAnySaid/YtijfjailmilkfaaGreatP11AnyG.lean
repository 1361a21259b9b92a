/-
  EnumerateAny: the errors, and the results, for all arguments. No conditions.
-/
import Derived.Test.YtijfjailmilkfaaGreatG24
import Derived.Test.YtijfjailmilkfaaGreatShelf
import Derived.Test.YtijfjailmilkfaaGreatRows
set_option maxHeartbeats 8000000
set_option linter.unusedVariables false
set_option linter.unusedSimpArgs false
set_option linter.constructorNameAsVariable false
namespace Go.Proofs.YtijfjailmilkfaaGreat.enumerateAny
open Go.ChangeShapes Go.WideShapes Go.ChangeAt Go.RowKit
set_option linter.unusedVariables false

theorem own : ownKnob Tryz.prog.godebug = none := by kernel_rfl

theorem walk (w : World) (v0 : Value) (a1 : Int) (a2 : Int) (v3 : Value) (L0 : MatL w v0) (w1 : (Lit.int .i64 a1).wf = true) (w2 : (Lit.int .i64 a2).wf = true) (L3 : Latt w v3) :
    Calls Tryz.prog 3 #[v0, .int .i64 a1, .int .i64 a2, v3] w fun e w' => e = .returned (.bool true) ∧ Below w.heap.size w w' := by
  rw [L0.eq]
  have b1 : -9223372036854775808 ≤ a1 ∧ a1 < 9223372036854775808 := by
    have h := w1
    have e1 : IntKind.i64.min = -9223372036854775808 := rfl
    have e2 : IntKind.i64.max = 9223372036854775808 - 1 := rfl
    simp [Lit.wf] at h
    omega
  have b2 : -9223372036854775808 ≤ a2 ∧ a2 < 9223372036854775808 := by
    have h := w2
    have e1 : IntKind.i64.min = -9223372036854775808 := rfl
    have e2 : IntKind.i64.max = 9223372036854775808 - 1 := rfl
    simp [Lit.wf] at h
    omega
  rw [L3.eq]
  exact (EnumerateAny_any L0.mat L0.fits L0.rl L0.len L0.cap b1.1 b1.2 b2.1 b2.2 L3.ints L3.i8 L3.len L3.dim0 L3.dim1 L3.kind0 L3.kind1).mono fun e w' ⟨he, hs⟩ => ⟨he, hs.below⟩
set_option maxRecDepth 100000 in
theorem lifted (os : Os) (started : os.Started) (H : Type) (enc : TypeId × Value → H) :
    ReturnsInHanded {} Tryz.checked os 3 .any (Rows.enumerateAnySpec.pre6 enc Tryz.prog Tryz.f3 Rows.enumerateAnyRow.domain false) (Rows.enumerateAnySpec.post enc Tryz.prog Tryz.f3 false true false false) := by
  refine returnsInHanded_of_change (C := Tryz.checked) own started (by kernel_rfl) Tryz.func3
    (ChangeSpec.witness6 (enc := enc) (C := Tryz.checked) false ⟨#[], #[.slice none 0 0, .int .i64 0, .int .i64 0, .agg #[.int .u8 0, .int .u8 0, .slice none 0 0, .slice none 0 0]], []⟩ 8 (by kernel_rfl) (by kernel_rfl) (by kernel_rfl) (by kernel_rfl)) ?_
  intro W base args ds gs before hval0 hW hcnd _
  have hval : ∀ (j : Nat) t v, Tryz.f3.params[j]? = some t → args[j]? = some v → Value.okWide Tryz.prog W .any base t v := hval0
  have hW' := hW
  obtain ⟨p, q, hA0, hV, rfl, hfz, hnd⟩ := hW
  have hA : DataW.TrodAll enc Tryz.prog W 0 (fun _ => true) true Tryz.f3.params.toList args.toList ds p := hA0
  rw [Tryz.params3] at hA hval
  obtain ⟨v0, vs0, d0, ds0, p0, q0, g0, rfl, rfl, h0, r0⟩ := trodAll_cons hA
  obtain ⟨v1, vs1, d1, ds1, p1, q1, g1, rfl, rfl, h1, r1⟩ := trodAll_cons r0
  obtain ⟨v2, vs2, d2, ds2, p2, q2, g2, rfl, rfl, h2, r2⟩ := trodAll_cons r1
  obtain ⟨v3, vs3, d3, ds3, p3, q3, g3, rfl, rfl, h3, r3⟩ := trodAll_cons r2
  obtain ⟨rfl, rfl, rfl⟩ := trodAll_nil r3
  obtain rfl : args = #[v0, v1, v2, v3] := by cases args; simp_all
  obtain ⟨rfl, rfl⟩ := trodVars_none hV
  obtain ⟨⟨L0⟩, S0⟩ := open_matL (hval 0 22 v0 rfl rfl) h0
  obtain ⟨a1, rfl, rfl, rfl, w1⟩ := open_int Tryz.underlying2 (hval 1 2 v1 rfl rfl) h1
  obtain ⟨a2, rfl, rfl, rfl, w2⟩ := open_int Tryz.underlying3 (hval 2 3 v2 rfl rfl) h2
  obtain ⟨⟨L3⟩, S3⟩ := open_lattice (hval 3 25 v3 rfl rfl) h3
  clear hA0 hval0
  simp only [List.append_nil, List.nil_append] at hW'
  refine (walk W v0 a1 a2 v3 L0 w1 w2 L3).mono fun e W' ⟨he, hg⟩ => ?_
  subst he
  refine ⟨_, rfl, law_post (s := Rows.enumerateAnySpec) hW' (fun _ _ _ => trodAll_cons_mk (shut_bool Tryz.underlying4 _) trodAll_mk0) (fun sp hs => by have hA2 := trodAll_cons_mk (S0 W' sp hg (fun q hq => hs q (by simp [hq]))) (trodAll_cons_mk (shut_int Tryz.underlying2 w1) (trodAll_cons_mk (shut_int Tryz.underlying3 w2) (trodAll_cons_mk (S3 W' sp hg (fun q hq => hs q (by simp [hq]))) trodAll_mk0))); simp only [List.append_nil, List.nil_append] at hA2; exact hA2) (fun _ => rfl) hg (ok_one (by kernel_rfl) rfl (okWide_bool_mk Tryz.underlying4 _))⟩

theorem k_inPlace : (Rows.enumerateAnyRow.inPlace == Tryz.prog.inPlace 3) = true := by kernel_rfl
theorem k_unfollowed : (Rows.enumerateAnyRow.unfollowed == Tryz.prog.unfollowed 3) = true := by kernel_rfl
theorem k_recurses : (Rows.enumerateAnyRow.recurses == Tryz.prog.recurses 3) = true := by kernel_rfl
theorem k_named : (Rows.enumerateAnyRow.named == Tryz.prog.varsNamed 3) = true := by kernel_rfl
/-- The closed facts of the statement, in parts: the kernel's memory. -/
theorem closed : joinedFacts Tryz.prog 3 Tryz.f3 Rows.enumerateAnySpec Rows.enumerateAnyRow = true := by
  unfold joinedFacts
  refine and_mk (and_mk (and_mk (and_mk (and_mk (and_mk (and_mk (and_mk (and_mk (and_mk (and_mk (and_mk (and_mk (and_mk (and_mk (and_mk (and_mk (and_mk (and_mk (and_mk (and_mk (and_mk (and_mk ?_ k_inPlace) k_unfollowed) k_recurses) k_named) ?_) ?_) ?_) ?_) ?_) ?_) ?_) ?_) ?_) ?_) ?_) ?_) c_may) (c_lifts rfl)) (c_make rfl)) ?_) ?_) ?_) ?_
  all_goals (as_aux_lemma => kernel_rfl)
theorem over : Rows.enumerateAnyRow.holds Tryz.pinned (OpenSpec.ofChange Rows.enumerateAnySpec) :=
  OpenClaim.holds_of_wide 3 Tryz.f3 rfl rfl rfl rfl rfl rfl rfl ⟨rfl, rfl, rfl, rfl, rfl⟩ rfl rfl rfl rfl rfl (by kernel_rfl) Tryz.func3 closed
    (of_decide_eq_true (by kernel_rfl)) (by unfold Func.isWrapper; first | (rw [if_pos (by decide +kernel)]; kernel_rfl) | (rw [if_neg (by decide +kernel)]; exact ⟨rfl, rfl⟩))
    (fun os started H enc _ => lifted os started H enc)

/-- ████ THE STATEMENT ████ -/
theorem proved : Rows.EnumerateAnySaid :=
  over
#print axioms proved
end Go.Proofs.YtijfjailmilkfaaGreat.enumerateAny

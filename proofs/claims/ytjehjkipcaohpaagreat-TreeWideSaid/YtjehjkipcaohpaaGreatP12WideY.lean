/-
  TreeWide: intervals that are much too wide are refused without an effort. No conditions.
-/
import Derived.Test.YtjehjkipcaohpaaGreatY26
import Derived.Test.YtjehjkipcaohpaaGreatYSh
import Derived.Test.YtjehjkipcaohpaaGreatRows
set_option maxHeartbeats 8000000
set_option linter.unusedVariables false
set_option linter.unusedSimpArgs false
set_option linter.constructorNameAsVariable false
namespace Go.Proofs.YtjehjkipcaohpaaGreat.treeWide
open Go.ChangeShapes Go.WideShapes Go.ChangeAt Go.RowKit
set_option linter.unusedVariables false

theorem own : ownKnob Tryz.prog.godebug = none := by kernel_rfl

theorem walk (w : World) (v0 : Value) (a1 : Int) (a2 : Int) (a3 : Int) (a4 : Int) (L0 : Latt w v0) (w1 : (Lit.int .u8 a1).wf = true) (w2 : (Lit.int .u8 a2).wf = true) (w3 : (Lit.int .i64 a3).wf = true) (w4 : (Lit.int .i64 a4).wf = true) :
    Calls Tryz.prog 18 #[v0, .int .u8 a1, .int .u8 a2, .int .i64 a3, .int .i64 a4] w fun e w' => e = .returned (.bool true) ∧ Below w.heap.size w w' := by
  rw [L0.eq];have b1 : 0 ≤ a1 ∧ a1 < 256 := by
    have h := w1;have e1 : IntKind.u8.min = 0 := rfl;have e2 : IntKind.u8.max = 256 - 1 := rfl;simp [Lit.wf] at h;omega
  have b2 : 0 ≤ a2 ∧ a2 < 256 := by
    have h := w2;have e1 : IntKind.u8.min = 0 := rfl;have e2 : IntKind.u8.max = 256 - 1 := rfl;simp [Lit.wf] at h;omega
  have b3 : -9223372036854775808 ≤ a3 ∧ a3 < 9223372036854775808 := by
    have h := w3;have e1 : IntKind.i64.min = -9223372036854775808 := rfl;have e2 : IntKind.i64.max = 9223372036854775808 - 1 := rfl;simp [Lit.wf] at h;omega
  have b4 : -9223372036854775808 ≤ a4 ∧ a4 < 9223372036854775808 := by
    have h := w4;have e1 : IntKind.i64.min = -9223372036854775808 := rfl;have e2 : IntKind.i64.max = 9223372036854775808 - 1 := rfl;simp [Lit.wf] at h;omega
  exact (zpb L0.ints L0.i8 L0.len L0.dim0 L0.dim1 L0.kind0 L0.kind1 b1.1 b1.2 b2.1 b2.2 b3.1 b3.2 b4.1 b4.2).mono fun e w' ⟨he, hs⟩ => ⟨he, hs.below⟩
set_option maxRecDepth 100000 in
theorem lifted (os : Os) (started : os.Started) (H : Type) (enc : TypeId × Value → H) :
    ReturnsInHanded {} Tryz.checked os 18 .any (Rows.treeWideSpec.pre6 enc Tryz.prog Tryz.f18 Rows.treeWideRow.domain false) (Rows.treeWideSpec.post enc Tryz.prog Tryz.f18 false true false false) := by
  refine returnsInHanded_of_change (C := Tryz.checked) own started (by kernel_rfl) Tryz.func18
    (ChangeSpec.witness6 (enc := enc) (C := Tryz.checked) false ⟨#[], #[.agg #[.int .u8 0, .int .u8 0, .slice none 0 0, .slice none 0 0], .int .u8 0, .int .u8 0, .int .i64 0, .int .i64 0], []⟩ 8 (by kernel_rfl) (by kernel_rfl) (by kernel_rfl) (by kernel_rfl)) ?_
  intro W base args ds gs before hval0 hW hcnd _;have hval : ∀ (j : Nat) t v, Tryz.f18.params[j]? = some t → args[j]? = some v → Value.okWide Tryz.prog W .any base t v := hval0;have hW' := hW;obtain ⟨p, q, hA0, hV, rfl, hfz, hnd⟩ := hW;have hA : DataW.TrodAll enc Tryz.prog W 0 (fun _ => true) true Tryz.f18.params.toList args.toList ds p := hA0;rw [Tryz.params18] at hA hval;obtain ⟨v0, vs0, d0, ds0, p0, q0, g0, rfl, rfl, h0, r0⟩ := trodAll_cons hA
  obtain ⟨v1, vs1, d1, ds1, p1, q1, g1, rfl, rfl, h1, r1⟩ := trodAll_cons r0;obtain ⟨v2, vs2, d2, ds2, p2, q2, g2, rfl, rfl, h2, r2⟩ := trodAll_cons r1;obtain ⟨v3, vs3, d3, ds3, p3, q3, g3, rfl, rfl, h3, r3⟩ := trodAll_cons r2;obtain ⟨v4, vs4, d4, ds4, p4, q4, g4, rfl, rfl, h4, r4⟩ := trodAll_cons r3;obtain ⟨rfl, rfl, rfl⟩ := trodAll_nil r4;obtain rfl : args = #[v0, v1, v2, v3, v4] := by cases args; simp_all
  obtain ⟨rfl, rfl⟩ := trodVars_none hV;obtain ⟨⟨L0⟩, S0⟩ := znU (hval 0 24 v0 rfl rfl) h0;obtain ⟨a1, rfl, rfl, rfl, w1⟩ := open_int Tryz.underlying5 (hval 1 5 v1 rfl rfl) h1;obtain ⟨a2, rfl, rfl, rfl, w2⟩ := open_int Tryz.underlying5 (hval 2 5 v2 rfl rfl) h2;obtain ⟨a3, rfl, rfl, rfl, w3⟩ := open_int Tryz.underlying2 (hval 3 2 v3 rfl rfl) h3;obtain ⟨a4, rfl, rfl, rfl, w4⟩ := open_int Tryz.underlying2 (hval 4 2 v4 rfl rfl) h4
  clear hA0 hval0;simp only [List.append_nil, List.nil_append] at hW';refine (walk W v0 a1 a2 a3 a4 L0 w1 w2 w3 w4).mono fun e W' ⟨he, hg⟩ => ?_
  subst he;refine ⟨_, rfl, zkA (s := Rows.treeWideSpec) hW' (fun _ _ _ => trodAll_cons_mk (shut_bool Tryz.underlying4 _) trodAll_mk0) (fun sp hs => by have hA2 := trodAll_cons_mk (S0 W' sp hg (fun q hq => hs q (by simp [hq]))) (trodAll_cons_mk (shut_int Tryz.underlying5 w1) (trodAll_cons_mk (shut_int Tryz.underlying5 w2) (trodAll_cons_mk (shut_int Tryz.underlying2 w3) (trodAll_cons_mk (shut_int Tryz.underlying2 w4) trodAll_mk0)))); simp only [List.append_nil, List.nil_append] at hA2; exact hA2) (fun _ => rfl) hg (ok_one (by kernel_rfl) rfl (okWide_bool_mk Tryz.underlying4 _))⟩

theorem k_inPlace : (Rows.treeWideRow.inPlace == Tryz.prog.inPlace 18) = true := by kernel_rfl
theorem k_unfollowed : (Rows.treeWideRow.unfollowed == Tryz.prog.unfollowed 18) = true := by kernel_rfl
theorem k_recurses : (Rows.treeWideRow.recurses == Tryz.prog.recurses 18) = true := by kernel_rfl
theorem k_named : (Rows.treeWideRow.named == Tryz.prog.varsNamed 18) = true := by kernel_rfl
theorem closed : joinedFacts Tryz.prog 18 Tryz.f18 Rows.treeWideSpec Rows.treeWideRow = true := by
  unfold joinedFacts;refine ZE (ZE (ZE (ZE (ZE (ZE (ZE (ZE (ZE (ZE (ZE (ZE (ZE (ZE (ZE (ZE (ZE (ZE (ZE (ZE (ZE (ZE (ZE ?_ k_inPlace) k_unfollowed) k_recurses) k_named) ?_) ?_) ?_) ?_) ?_) ?_) ?_) ?_) ?_) ?_) ?_) ?_) zkH) (zkJ rfl)) (zkI rfl)) ?_) ?_) ?_) ?_
  all_goals (as_aux_lemma => kernel_rfl)
theorem over : Rows.treeWideRow.holds Tryz.pinned (OpenSpec.ofChange Rows.treeWideSpec) :=
  OpenClaim.holds_of_wide 18 Tryz.f18 rfl rfl rfl rfl rfl rfl rfl ⟨rfl, rfl, rfl, rfl, rfl⟩ rfl rfl rfl rfl rfl (by kernel_rfl) Tryz.func18 closed
    (of_decide_eq_true (by kernel_rfl)) (by unfold Func.isWrapper; first | (rw [if_pos (by decide +kernel)]; kernel_rfl) | (rw [if_neg (by decide +kernel)]; exact ⟨rfl, rfl⟩))
    (fun os started H enc _ => lifted os started H enc)

/-- ████ THE STATEMENT ████ -/
theorem proved : Rows.TreeWideSaid :=
  over
#print axioms proved
end Go.Proofs.YtjehjkipcaohpaaGreat.treeWide

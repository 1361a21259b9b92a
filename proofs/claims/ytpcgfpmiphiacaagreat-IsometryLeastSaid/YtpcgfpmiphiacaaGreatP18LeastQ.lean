/-
  IsometryLeast: no isometry comes before the one that is found. No conditions.
-/
import Derived.Test.YtpcgfpmiphiacaaGreatQ22
import Derived.Test.YtpcgfpmiphiacaaGreatShelf
import Derived.Test.YtpcgfpmiphiacaaGreatRows
set_option maxHeartbeats 8000000
set_option linter.unusedVariables false
set_option linter.unusedSimpArgs false
set_option linter.constructorNameAsVariable false
namespace Go.Proofs.YtpcgfpmiphiacaaGreat.isometryLeast
open Go.ChangeShapes Go.WideShapes Go.ChangeAt Go.RowKit
set_option linter.unusedVariables false

theorem own : ownKnob Tryz.prog.godebug = none := by kernel_rfl

theorem walk (w : World) (a0 : Int) (v1 : Value) (a2 : Int) (w0 : (Lit.int .u8 a0).wf = true) (L1 : I8A w v1) (w2 : (Lit.int .u8 a2).wf = true) :
    Calls Tryz.prog 4 #[.int .u8 a0, v1, .int .u8 a2] w fun e w' => e = .returned (.bool true) ∧ Below w.heap.size w w' := by
  have b0 : 0 ≤ a0 ∧ a0 < 256 := by
    have h := w0
    have e1 : IntKind.u8.min = 0 := rfl
    have e2 : IntKind.u8.max = 256 - 1 := rfl
    simp [Lit.wf] at h
    omega
  rw [L1.eq]
  have b2 : 0 ≤ a2 ∧ a2 < 256 := by
    have h := w2
    have e1 : IntKind.u8.min = 0 := rfl
    have e2 : IntKind.u8.max = 256 - 1 := rfl
    simp [Lit.wf] at h
    omega
  exact (IsometryLeast_any b0.1 b0.2 L1.ints L1.i8 L1.len b2.1 b2.2).mono fun e w' ⟨he, hs⟩ => ⟨he, hs.below⟩
set_option maxRecDepth 100000 in
theorem lifted (os : Os) (started : os.Started) (H : Type) (enc : TypeId × Value → H) :
    ReturnsInHanded {} Tryz.checked os 4 .any (Rows.isometryLeastSpec.pre6 enc Tryz.prog Tryz.f4 Rows.isometryLeastRow.domain false) (Rows.isometryLeastSpec.post enc Tryz.prog Tryz.f4 false true false false) := by
  refine returnsInHanded_of_change (C := Tryz.checked) own started (by kernel_rfl) Tryz.func4
    (ChangeSpec.witness6 (enc := enc) (C := Tryz.checked) false ⟨#[], #[.int .u8 0, .slice none 0 0, .int .u8 0], []⟩ 8 (by kernel_rfl) (by kernel_rfl) (by kernel_rfl) (by kernel_rfl)) ?_
  intro W base args ds gs before hval0 hW hcnd _
  have hval : ∀ (j : Nat) t v, Tryz.f4.params[j]? = some t → args[j]? = some v → Value.okWide Tryz.prog W .any base t v := hval0
  have hW' := hW
  obtain ⟨p, q, hA0, hV, rfl, hfz, hnd⟩ := hW
  have hA : DataW.TrodAll enc Tryz.prog W 0 (fun _ => true) true Tryz.f4.params.toList args.toList ds p := hA0
  rw [Tryz.params4] at hA hval
  obtain ⟨v0, vs0, d0, ds0, p0, q0, g0, rfl, rfl, h0, r0⟩ := trodAll_cons hA
  obtain ⟨v1, vs1, d1, ds1, p1, q1, g1, rfl, rfl, h1, r1⟩ := trodAll_cons r0
  obtain ⟨v2, vs2, d2, ds2, p2, q2, g2, rfl, rfl, h2, r2⟩ := trodAll_cons r1
  obtain ⟨rfl, rfl, rfl⟩ := trodAll_nil r2
  obtain rfl : args = #[v0, v1, v2] := by cases args; simp_all
  obtain ⟨rfl, rfl⟩ := trodVars_none hV
  obtain ⟨a0, rfl, rfl, rfl, w0⟩ := open_int Tryz.underlying5 (hval 0 5 v0 rfl rfl) h0
  obtain ⟨⟨L1⟩, S1⟩ := open_i8A (hval 1 22 v1 rfl rfl) h1
  obtain ⟨a2, rfl, rfl, rfl, w2⟩ := open_int Tryz.underlying5 (hval 2 5 v2 rfl rfl) h2
  clear hA0 hval0
  simp only [List.append_nil, List.nil_append] at hW'
  refine (walk W a0 v1 a2 w0 L1 w2).mono fun e W' ⟨he, hg⟩ => ?_
  subst he
  refine ⟨_, rfl, law_post (s := Rows.isometryLeastSpec) hW' (fun _ _ _ => trodAll_cons_mk (shut_bool Tryz.underlying4 _) trodAll_mk0) (fun sp hs => by have hA2 := trodAll_cons_mk (shut_int Tryz.underlying5 w0) (trodAll_cons_mk (S1 W' sp hg (fun q hq => hs q (by simp [hq]))) (trodAll_cons_mk (shut_int Tryz.underlying5 w2) trodAll_mk0)); simp only [List.append_nil, List.nil_append] at hA2; exact hA2) (fun _ => rfl) hg (ok_one (by kernel_rfl) rfl (okWide_bool_mk Tryz.underlying4 _))⟩

theorem k_inPlace : (Rows.isometryLeastRow.inPlace == Tryz.prog.inPlace 4) = true := by kernel_rfl
theorem k_unfollowed : (Rows.isometryLeastRow.unfollowed == Tryz.prog.unfollowed 4) = true := by kernel_rfl
theorem k_recurses : (Rows.isometryLeastRow.recurses == Tryz.prog.recurses 4) = true := by kernel_rfl
theorem k_named : (Rows.isometryLeastRow.named == Tryz.prog.varsNamed 4) = true := by kernel_rfl
/-- The closed facts of the statement, in parts: the kernel's memory. -/
theorem closed : joinedFacts Tryz.prog 4 Tryz.f4 Rows.isometryLeastSpec Rows.isometryLeastRow = true := by
  unfold joinedFacts
  refine and_mk (and_mk (and_mk (and_mk (and_mk (and_mk (and_mk (and_mk (and_mk (and_mk (and_mk (and_mk (and_mk (and_mk (and_mk (and_mk (and_mk (and_mk (and_mk (and_mk (and_mk (and_mk (and_mk ?_ k_inPlace) k_unfollowed) k_recurses) k_named) ?_) ?_) ?_) ?_) ?_) ?_) ?_) ?_) ?_) ?_) ?_) ?_) c_may) (c_lifts rfl)) (c_make rfl)) ?_) ?_) ?_) ?_
  all_goals (as_aux_lemma => kernel_rfl)
theorem over : Rows.isometryLeastRow.holds Tryz.pinned (OpenSpec.ofChange Rows.isometryLeastSpec) :=
  OpenClaim.holds_of_wide 4 Tryz.f4 rfl rfl rfl rfl rfl rfl rfl ⟨rfl, rfl, rfl, rfl, rfl⟩ rfl rfl rfl rfl rfl (by kernel_rfl) Tryz.func4 closed
    (of_decide_eq_true (by kernel_rfl)) (by unfold Func.isWrapper; first | (rw [if_pos (by decide +kernel)]; kernel_rfl) | (rw [if_neg (by decide +kernel)]; exact ⟨rfl, rfl⟩))
    (fun os started H enc _ => lifted os started H enc)

/-- ████ THE STATEMENT ████ -/
theorem proved : Rows.IsometryLeastSaid :=
  over
#print axioms proved
end Go.Proofs.YtpcgfpmiphiacaaGreat.isometryLeast

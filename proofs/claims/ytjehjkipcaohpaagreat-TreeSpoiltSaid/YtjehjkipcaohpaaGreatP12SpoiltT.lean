/-
  TreeSpoilt: what Verify returns for a tree with one change: an interval is changed, left out, doubled or exchanged, or the bound is another one. No conditions.
-/
import Derived.Test.YtjehjkipcaohpaaGreatT26
import Derived.Test.YtjehjkipcaohpaaGreatTSh
import Derived.Test.YtjehjkipcaohpaaGreatRows
set_option maxHeartbeats 8000000
set_option linter.unusedVariables false
set_option linter.unusedSimpArgs false
set_option linter.constructorNameAsVariable false
namespace Go.Proofs.YtjehjkipcaohpaaGreat.treeSpoilt
open Go.ChangeShapes Go.WideShapes Go.ChangeAt Go.RowKit
set_option linter.unusedVariables false

theorem own : ownKnob Tryz.prog.godebug = none := by kernel_rfl

theorem walk (w : World) (v0 : Value) (a1 : Int) (a2 : Int) (a3 : Int) (a4 : Int) (a5 : Int) (L0 : Latt w v0) (w1 : (Lit.int .u8 a1).wf = true) (w2 : (Lit.int .u16 a2).wf = true) (w3 : (Lit.int .u8 a3).wf = true) (w4 : (Lit.int .i8 a4).wf = true) (w5 : (Lit.int .i8 a5).wf = true) :
    Calls Tryz.prog 14 #[v0, .int .u8 a1, .int .u16 a2, .int .u8 a3, .int .i8 a4, .int .i8 a5] w fun e w' => e = .returned (.bool true) ∧ Below w.heap.size w w' := by
  rw [L0.eq];have b1 : 0 ≤ a1 ∧ a1 < 256 := by
    have h := w1;have e1 : IntKind.u8.min = 0 := rfl;have e2 : IntKind.u8.max = 256 - 1 := rfl;simp [Lit.wf] at h;omega
  have b2 : 0 ≤ a2 ∧ a2 < 65536 := by
    have h := w2;have e1 : IntKind.u16.min = 0 := rfl;have e2 : IntKind.u16.max = 65536 - 1 := rfl;simp [Lit.wf] at h;omega
  have b3 : 0 ≤ a3 ∧ a3 < 256 := by
    have h := w3;have e1 : IntKind.u8.min = 0 := rfl;have e2 : IntKind.u8.max = 256 - 1 := rfl;simp [Lit.wf] at h;omega
  have b4 : -128 ≤ a4 ∧ a4 < 128 := by
    have h := w4;have e1 : IntKind.i8.min = -128 := rfl;have e2 : IntKind.i8.max = 128 - 1 := rfl;simp [Lit.wf] at h;omega
  have b5 : -128 ≤ a5 ∧ a5 < 128 := by
    have h := w5;have e1 : IntKind.i8.min = -128 := rfl;have e2 : IntKind.i8.max = 128 - 1 := rfl;simp [Lit.wf] at h;omega
  exact (zo4 L0.ints L0.i8 L0.len L0.dim0 L0.dim1 L0.kind0 L0.kind1 b1.1 b1.2 b2.1 b2.2 b3.1 b3.2 b4.1 b4.2 b5.1 b5.2).mono fun e w' ⟨he, hs⟩ => ⟨he, hs.below⟩
set_option maxRecDepth 100000 in
theorem lifted (os : Os) (started : os.Started) (H : Type) (enc : TypeId × Value → H) :
    ReturnsInHanded {} Tryz.checked os 14 .any (Rows.treeSpoiltSpec.pre6 enc Tryz.prog Tryz.f14 Rows.treeSpoiltRow.domain false) (Rows.treeSpoiltSpec.post enc Tryz.prog Tryz.f14 false true false false) := by
  refine returnsInHanded_of_change (C := Tryz.checked) own started (by kernel_rfl) Tryz.func14
    (ChangeSpec.witness6 (enc := enc) (C := Tryz.checked) false ⟨#[], #[.agg #[.int .u8 0, .int .u8 0, .slice none 0 0, .slice none 0 0], .int .u8 0, .int .u16 0, .int .u8 0, .int .i8 0, .int .i8 0], []⟩ 8 (by kernel_rfl) (by kernel_rfl) (by kernel_rfl) (by kernel_rfl)) ?_
  intro W zd args ds gs before hval0 hW hcnd _;have hval : ∀ (j : Nat) t v, Tryz.f14.params[j]? = some t → args[j]? = some v → Value.okWide Tryz.prog W .any zd t v := hval0;have hW' := hW;obtain ⟨p, q, hA0, hV, rfl, hfz, hnd⟩ := hW;have hA : DataW.TrodAll enc Tryz.prog W 0 (fun _ => true) true Tryz.f14.params.toList args.toList ds p := hA0;rw [Tryz.params14] at hA hval;obtain ⟨v0, vs0, d0, ds0, p0, q0, g0, rfl, rfl, h0, r0⟩ := trodAll_cons hA
  obtain ⟨v1, vs1, d1, ds1, p1, q1, g1, rfl, rfl, h1, r1⟩ := trodAll_cons r0;obtain ⟨v2, vs2, d2, ds2, p2, q2, g2, rfl, rfl, h2, r2⟩ := trodAll_cons r1;obtain ⟨v3, vs3, d3, ds3, p3, q3, g3, rfl, rfl, h3, r3⟩ := trodAll_cons r2;obtain ⟨v4, vs4, d4, ds4, p4, q4, g4, rfl, rfl, h4, r4⟩ := trodAll_cons r3;obtain ⟨v5, vs5, d5, ds5, p5, q5, g5, rfl, rfl, h5, r5⟩ := trodAll_cons r4;obtain ⟨rfl, rfl, rfl⟩ := trodAll_nil r5
  obtain rfl : args = #[v0, v1, v2, v3, v4, v5] := by cases args; simp_all
  obtain ⟨rfl, rfl⟩ := trodVars_none hV;obtain ⟨⟨L0⟩, S0⟩ := znY (hval 0 24 v0 rfl rfl) h0;obtain ⟨a1, rfl, rfl, rfl, w1⟩ := open_int Tryz.underlying5 (hval 1 5 v1 rfl rfl) h1;obtain ⟨a2, rfl, rfl, rfl, w2⟩ := open_int Tryz.underlying25 (hval 2 25 v2 rfl rfl) h2;obtain ⟨a3, rfl, rfl, rfl, w3⟩ := open_int Tryz.underlying5 (hval 3 5 v3 rfl rfl) h3;obtain ⟨a4, rfl, rfl, rfl, w4⟩ := open_int Tryz.underlying62 (hval 4 62 v4 rfl rfl) h4
  obtain ⟨a5, rfl, rfl, rfl, w5⟩ := open_int Tryz.underlying62 (hval 5 62 v5 rfl rfl) h5;clear hA0 hval0;simp only [List.append_nil, List.nil_append] at hW';refine (walk W v0 a1 a2 a3 a4 a5 L0 w1 w2 w3 w4 w5).mono fun e W' ⟨he, hg⟩ => ?_
  subst he;refine ⟨_, rfl, zkJ (s := Rows.treeSpoiltSpec) hW' (fun _ _ _ => trodAll_cons_mk (shut_bool Tryz.underlying4 _) trodAll_mk0) (fun sp hs => by have hA2 := trodAll_cons_mk (S0 W' sp hg (fun q hq => hs q (by simp [hq]))) (trodAll_cons_mk (shut_int Tryz.underlying5 w1) (trodAll_cons_mk (shut_int Tryz.underlying25 w2) (trodAll_cons_mk (shut_int Tryz.underlying5 w3) (trodAll_cons_mk (shut_int Tryz.underlying62 w4) (trodAll_cons_mk (shut_int Tryz.underlying62 w5) trodAll_mk0))))); simp only [List.append_nil, List.nil_append] at hA2; exact hA2) (fun _ => rfl) hg (ok_one (by kernel_rfl) rfl (okWide_bool_mk Tryz.underlying4 _))⟩

theorem k_inPlace : (Rows.treeSpoiltRow.inPlace == Tryz.prog.inPlace 14) = true := by kernel_rfl
theorem k_unfollowed : (Rows.treeSpoiltRow.unfollowed == Tryz.prog.unfollowed 14) = true := by kernel_rfl
theorem k_recurses : (Rows.treeSpoiltRow.recurses == Tryz.prog.recurses 14) = true := by kernel_rfl
theorem k_named : (Rows.treeSpoiltRow.named == Tryz.prog.varsNamed 14) = true := by kernel_rfl
theorem closed : joinedFacts Tryz.prog 14 Tryz.f14 Rows.treeSpoiltSpec Rows.treeSpoiltRow = true := by
  unfold joinedFacts;refine ZN (ZN (ZN (ZN (ZN (ZN (ZN (ZN (ZN (ZN (ZN (ZN (ZN (ZN (ZN (ZN (ZN (ZN (ZN (ZN (ZN (ZN (ZN ?_ k_inPlace) k_unfollowed) k_recurses) k_named) ?_) ?_) ?_) ?_) ?_) ?_) ?_) ?_) ?_) ?_) ?_) ?_) zkQ) (zkS rfl)) (zkR rfl)) ?_) ?_) ?_) ?_
  all_goals (as_aux_lemma => kernel_rfl)
theorem over : Rows.treeSpoiltRow.holds Tryz.pinned (OpenSpec.ofChange Rows.treeSpoiltSpec) :=
  OpenClaim.holds_of_wide 14 Tryz.f14 rfl rfl rfl rfl rfl rfl rfl ⟨rfl, rfl, rfl, rfl, rfl⟩ rfl rfl rfl rfl rfl (by kernel_rfl) Tryz.func14 closed
    (of_decide_eq_true (by kernel_rfl)) (by unfold Func.isWrapper; first | (rw [if_pos (by decide +kernel)]; kernel_rfl) | (rw [if_neg (by decide +kernel)]; exact ⟨rfl, rfl⟩))
    (fun os started H enc _ => lifted os started H enc)

/-- ████ THE STATEMENT ████ -/
theorem proved : Rows.TreeSpoiltSaid :=
  over
#print axioms proved
end Go.Proofs.YtjehjkipcaohpaaGreat.treeSpoilt

/-
  Contracts of the package schur.
-/
import Derived.Test.YtaaldapmkhamlaaGreatRoot
namespace Go.Proofs.YtaaldapmkhamlaaGreat
open Go.RowKit
/-- The first row of a stage, as it is read in every later world. -/
theorem StV.rowAt {w : World} {A : Option Addr} {m : List (List Int)} (h : StV w A (stagesOf m)) (hn : AllLen m m.length) {k : Nat} (hk : k < m.length) :
    ∃ b o b1 o1 c1 b2 o2 c2, A = some ⟨b, o, none⟩ ∧ m.length - k ≤ c1 ∧ c1 ≤ 9223372036854775807 ∧ m.length - k ≤ c2 ∧ c2 ≤ 9223372036854775807 ∧
      (∀ w', Ext w w' → w'.cell? ⟨b, o + k, none⟩ = some (.slice (some ⟨b1, o1, none⟩) (m.length - k) c1) ∧ w'.cell? ⟨b1, o1, none⟩ = some (.slice (some ⟨b2, o2, none⟩) (m.length - k) c2) ∧ b < w'.heap.size ∧ b1 < w'.heap.size ∧ b2 < w'.heap.size) ∧
      ∀ j, j < m.length - k → ∃ g B n c, IntV w g B n c (ent (stAt m k).2 0 j) ∧ ∀ w', Ext w w' → w'.cell? ⟨b2, o2 + j * 2, none⟩ = some (.bool g) ∧ w'.cell? ⟨b2, o2 + j * 2 + 1, none⟩ = some (.slice B n c) := by
  have hs : (stagesOf m)[k]? = some (stAt m k).2 := by simp [stagesOf, hk]
  obtain ⟨b, o, B1, c1, hA, e1, hM, l1, l2, hb⟩ := h.at_ hs
  have hlen := stAt_length m k
  have hall := stAt_allLen m hn k
  have hr : (stAt m k).2[0]? = some ((stAt m k).2[0]'(by omega)) := by simp
  have hl0 : ((stAt m k).2[0]'(by omega)).length = m.length - k := hall _ (List.getElem_mem _)
  obtain ⟨b1, o1, B2, c2, hB1, e2, hI, p1, p2, hb1⟩ := hM.at_ hr
  subst hB1
  rw [hl0] at e2 p1
  rw [hlen] at e1 l1
  obtain ⟨b2, o2, -, -, -, -, hB2, -, -, -, hb2⟩ := hI.at_ (i := 0) (by omega)
  subst hB2
  simp only [Nat.add_zero] at e2
  refine ⟨b, o, b1, o1, c1, b2, o2, c2, hA, l1, l2, p1, p2, fun w' hx => ⟨?_, ?_, Nat.lt_of_lt_of_le hb hx.size, Nat.lt_of_lt_of_le hb1 hx.size, Nat.lt_of_lt_of_le hb2 hx.size⟩, fun j hj => ?_⟩
  · rw [hx.below.cell (p := ⟨b, o + k, none⟩) hb]; exact e1
  · rw [hx.below.cell (p := ⟨b1, o1, none⟩) hb1]; exact e2
  · obtain ⟨b', o', g, B, n, c, hB, d1, d2, hV, -⟩ := hI.at_ (i := j) (by omega)
    injection hB with hB
    injection hB with x1 x2
    subst x1 x2
    have he : ent (stAt m k).2 0 j = ((stAt m k).2[0]'(by omega))[j]'(by omega) := ent_of hr (by simp)
    rw [he]
    refine ⟨g, B, n, c, hV, fun w' hx => ⟨?_, ?_⟩⟩
    · rw [hx.below.cell (p := ⟨b2, o2 + j * 2, none⟩) hb2]; exact d1
    · rw [hx.below.cell (p := ⟨b2, o2 + j * 2 + 1, none⟩) hb2]; exact d2

/-- The minors d_0, .., d_k. -/
def minorsTo (m : List (List Int)) (k : Nat) : List Int := 1 :: (List.range k).map fun i => ent (stAt m i).2 0 0
theorem minorsTo_succ (m : List (List Int)) (k : Nat) : minorsTo m (k + 1) = minorsTo m k ++ [ent (stAt m k).2 0 0] := by simp [minorsTo, List.range_succ]
theorem minorsTo_length (m : List (List Int)) (k : Nat) : (minorsTo m k).length = k + 1 := by simp [minorsTo]

theorem IntsV.snoc {w w' : World} {A' : Option Addr} {zs : List Int} {z : Int} {vs : List Value} {g : Bool} {B : Option Addr} {n c : Nat} {base : Nat}
    (hl : vs.length = zs.length * 2) (h3 : ∀ (i : Nat) (z : Int), zs[i]? = some z → ∃ g B n c, vs[i * 2]? = some (.bool g) ∧ vs[i * 2 + 1]? = some (.slice B n c) ∧ IntV w g B n c z)
    (hz : IntV w g B n c z) (hg : Grow base 158 w w') (ha : Arr w' A' 158 (vs ++ [.bool g, .slice B n c])) : IntsV w' A' (zs ++ [z]) := by
  refine ⟨_, by simp [hl]; omega, ha, fun i y hy => ?_⟩
  rcases Nat.lt_or_ge i zs.length with hi | hi
  · rw [List.getElem?_append_left hi] at hy
    obtain ⟨g1, B1, n1, c1, a1, a2, a3⟩ := h3 i y hy
    exact ⟨g1, B1, n1, c1, by rw [List.getElem?_append_left (by omega)]; exact a1, by rw [List.getElem?_append_left (by omega)]; exact a2, a3.grow hg (by decide)⟩
  · have hi' : i = zs.length := by
      have : i < (zs ++ [z]).length := by
        rcases Nat.lt_or_ge i (zs ++ [z]).length with h | h
        · exact h
        · rw [List.getElem?_eq_none h] at hy; cases hy
      simp at this; omega
    subst hi'
    have : y = z := by simpa using hy.symm
    subst this
    exact ⟨g, B, n, c, by rw [List.getElem?_append_right (by omega), hl]; simp, by rw [List.getElem?_append_right (by omega), hl]; simp, hz.grow hg (by decide)⟩

theorem small_any {w0 w : World} {na : Bool} {A : Option Addr} {n c : Nat} {x : Int} (ha : IntV w0 na A n c x) (h0 : -9223372036854775808 ≤ x) (h1 : x ≤ 9223372036854775807) [hx : Ext w0 w] :
    Calls Tryz.prog 84 #[.agg #[.bool na, .slice A n c]] w (RetVal w (.int .i64 x)) := by
  go_enter Tryz.func84, Tryz.ntmps84
  go_wp2_with (go_at_call 126; refine (Int64_fit ha h0 h1).mono ?_; rintro e w' ⟨rfl, hs⟩)
  go_ret
  exact ⟨rfl, Step.of _ _⟩
end Go.Proofs.YtaaldapmkhamlaaGreat

/-
  Square roots and floors in plain numbers.
-/
import Derived.Test.YtaaldapmkhamlaaGreatLll
import Derived.Test.YtaaldapmkhamlaaGreatShelf
import Derived.Lib.ItoaNum
namespace Go.Proofs.YtaaldapmkhamlaaGreat
open Go.RowKit
/-- The floor of the square root. -/
def isq : Nat → Nat
  | 0 => 0
  | n + 1 => if (isq n + 1) * (isq n + 1) ≤ n + 1 then isq n + 1 else isq n
theorem isq_spec (n : Nat) : isq n * isq n ≤ n ∧ n < (isq n + 1) * (isq n + 1) := by
  induction n with
  | zero => simp [isq]
  | succ n ih =>
    simp only [isq]
    split
    · refine ⟨by assumption, ?_⟩
      have e : (isq n + 1 + 1) * (isq n + 1 + 1) = (isq n + 1) * (isq n + 1) + 2 * (isq n + 1) + 1 := by
        rw [Nat.add_mul, Nat.mul_add]; omega
      omega
    · omega
theorem sq_lt_of {a b : Nat} (h : a * a < b * b) : a < b := by
  rcases Nat.lt_or_ge a b with h1 | h1
  · exact h1
  · have := Nat.mul_le_mul h1 h1; omega
theorem isq_unique {n r : Nat} (h1 : r * r ≤ n) (h2 : n < (r + 1) * (r + 1)) : isq n = r := by
  have ⟨a, b⟩ := isq_spec n
  have := sq_lt_of (Nat.lt_of_le_of_lt a h2)
  have := sq_lt_of (Nat.lt_of_le_of_lt h1 b)
  omega
/-- One step of Newton's method stays at or above the root. -/
theorem newton_ge {a r : Nat} (hr : 1 ≤ r) : isq a ≤ (r + a / r) / 2 := by
  have ⟨h1, _⟩ := isq_spec a
  obtain ⟨s, hs⟩ : ∃ s, s = isq a := ⟨_, rfl⟩
  rw [← hs] at h1 ⊢
  rcases Nat.lt_or_ge ((r + a / r) / 2) s with h | h
  · exfalso
    have h2 : r + a / r + 1 ≤ 2 * s := by omega
    have h3 : a < r * (a / r + 1) := by
      have := Nat.div_add_mod a r
      have := Nat.mod_lt a (show 0 < r by omega)
      rw [Nat.mul_add]; omega
    -- a < r * (2 s - r) ≤ s * s
    obtain ⟨q, hq⟩ : ∃ q, q = a / r + 1 := ⟨_, rfl⟩
    rw [← hq] at h3
    have h4 : r + q ≤ 2 * s := by omega
    have h5 : r * q ≤ s * s := by
      rcases Nat.le_total r s with hrs | hrs
      · obtain ⟨d, rfl⟩ : ∃ d, s = r + d := ⟨s - r, by omega⟩
        have : q ≤ r + 2 * d := by omega
        have := Nat.mul_le_mul_left r this
        have e1 : (r + d) * (r + d) = r * r + 2 * (r * d) + d * d := by rw [Nat.add_mul, Nat.mul_add, Nat.mul_add, Nat.mul_comm d r]; omega
        have e2 : r * (r + 2 * d) = r * r + 2 * (r * d) := by rw [Nat.mul_add, Nat.mul_left_comm]
        omega
      · obtain ⟨d, rfl⟩ : ∃ d, r = s + d := ⟨r - s, by omega⟩
        have hqs : q + d ≤ s := by omega
        obtain ⟨e, rfl⟩ : ∃ e, s = q + d + e := ⟨s - q - d, by omega⟩
        have : (q + d + e + d) * q ≤ (q + d + e) * (q + d + e) := by
          have e1 : (q + d + e + d) * q = q * (q + d + e) + d * q := by rw [Nat.add_mul, Nat.mul_comm (q + d + e) q]
          have e2 : (q + d + e) * (q + d + e) = q * (q + d + e) + d * (q + d + e) + e * (q + d + e) := by rw [← Nat.add_mul, ← Nat.add_mul]
          have e3 : d * q ≤ d * (q + d + e) := Nat.mul_le_mul_left d (by omega)
          omega
        exact this
    omega
  · exact h
theorem newton_end {a r : Nat} (hr : 1 ≤ r) (h : r ≤ (r + a / r) / 2) (hs : isq a ≤ r) : isq a = r := by
  have h1 : r ≤ a / r := by omega
  have h2 : r * r ≤ a := (Nat.le_div_iff_mul_le (by omega)).1 h1
  refine isq_unique h2 ?_
  have := (isq_spec a).2
  exact Nat.lt_of_lt_of_le this (Nat.mul_le_mul (by omega) (by omega))
theorem newton_quot {a r : Nat} (hs : isq a ≤ r) : a / r ≤ r + 2 := by
  have := (isq_spec a).2
  have h3 : a < (r + 1) * (r + 1) := Nat.lt_of_lt_of_le this (Nat.mul_le_mul (by omega) (by omega))
  have e : (r + 1) * (r + 1) = r * (r + 2) + 1 := by simp only [Nat.add_mul, Nat.mul_add]; omega
  have : a ≤ r * (r + 2) := by omega
  exact Nat.div_le_of_le_mul this
theorem isq_le_of_lt {a r : Nat} (h : a < r * r) : isq a ≤ r := Nat.le_of_lt (sq_lt_of (Nat.lt_of_le_of_lt (isq_spec a).1 h))
/-- The start of the root's search. -/
theorem root_start {a : Nat} (h1 : 1 ≤ a) (h2 : a < 9223372036854775808) : ∃ s : Nat, (Lib.bitLen a + 1) / 2 = s ∧ s ≤ 32 ∧ isq a ≤ 2 ^ s ∧ 1 ≤ Lib.bitLen a ∧ Lib.bitLen a ≤ 63 := by
  have hb := Lib.bitLenAux_bounds 64 a (by omega) (by omega)
  have hb' : 1 ≤ Lib.bitLen a ∧ 2 ^ (Lib.bitLen a - 1) ≤ a ∧ a < 2 ^ Lib.bitLen a := hb
  obtain ⟨L, hL⟩ : ∃ L, L = Lib.bitLen a := ⟨_, rfl⟩
  rw [← hL] at hb' ⊢
  have h63 : L ≤ 63 := by
    rcases Nat.lt_or_ge 63 L with h | h
    · have : 2 ^ 63 ≤ 2 ^ (L - 1) := Nat.pow_le_pow_right (by omega) (by omega)
      omega
    · exact h
  refine ⟨(L + 1) / 2, rfl, by omega, isq_le_of_lt ?_, hb'.1, h63⟩
  rw [← Nat.pow_add]
  exact Nat.lt_of_lt_of_le hb'.2.2 (Nat.pow_le_pow_right (by omega) (by omega))
/-- The floor of a quotient by a positive number. -/
theorem floor_eq {a b : Int} (hb : 0 < b) : a / b = if a.tmod b < 0 then a.tdiv b - 1 else a.tdiv b := by
  rw [Int.tdiv_eq_ediv, Int.tmod_eq_emod, Int.sign_eq_one_of_pos hb]
  have n3 := Int.emod_nonneg a (show b ≠ 0 by omega)
  have n4 := Int.emod_lt_of_pos a hb
  by_cases h : 0 ≤ a ∨ b ∣ a
  · rw [if_pos h, if_pos h, if_neg (by omega)]; omega
  · rw [if_neg h, if_neg h, if_pos (by omega)]; omega
end Go.Proofs.YtaaldapmkhamlaaGreat

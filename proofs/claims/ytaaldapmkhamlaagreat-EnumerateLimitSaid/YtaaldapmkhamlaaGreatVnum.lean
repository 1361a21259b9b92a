/-
  One step of the walk over the tails, in plain numbers.
-/
import Derived.Test.YtaaldapmkhamlaaGreatNwalk
namespace Go.Proofs.YtaaldapmkhamlaaGreat
open Go.RowKit
/-- The sum of the absolute values. -/
def absSum : List Int → Int
  | [] => 0
  | x :: l => (x.natAbs : Int) + absSum l
theorem absSum_nonneg : ∀ l, 0 ≤ absSum l
  | [] => Int.le_refl _
  | x :: l => by have := absSum_nonneg l; simp only [absSum]; omega
theorem le_absSum : ∀ (l : List Int) (i : Nat) (x : Int), l[i]? = some x → -absSum l ≤ x ∧ x ≤ absSum l
  | [], _, _, h => by simp at h
  | y :: l, 0, x, h => by simp at h; subst h; have := absSum_nonneg l; simp only [absSum]; omega
  | y :: l, i + 1, x, h => by have := le_absSum l i x (by simpa using h); simp only [absSum]; omega
theorem dotL_half (d : Int) (hd : 0 ≤ d) : ∀ (l m : List Int), (∀ x ∈ l, -d ≤ 2 * x ∧ 2 * x ≤ d) → -(d * absSum m) ≤ 2 * dotL l m ∧ 2 * dotL l m ≤ d * absSum m
  | [], m, _ => by
    have := Int.mul_nonneg hd (absSum_nonneg m)
    simp only [dotL_nil]; omega
  | x :: l, [], _ => by simp [dotL, absSum]
  | x :: l, y :: m, h => by
    have ih := dotL_half d hd l m (fun z hz => h z (by simp [hz]))
    have hx := h x (by simp)
    have hb := mul_abs_le (a := 2 * x) (b := y) (A := d) (B := (y.natAbs : Int)) hx.1 hx.2 (by omega) (by omega)
    simp only [dotL, absSum]
    have e1 : 2 * (x * y + dotL l m) = 2 * x * y + 2 * dotL l m := by rw [Int.mul_add, Int.mul_assoc]
    have e2 : d * ((y.natAbs : Int) + absSum m) = d * (y.natAbs : Int) + d * absSum m := Int.mul_add _ _ _
    rw [e1, e2]; omega

/-! ## One step of the walk over the tails -/
/-- The number of the interval's end: the sum of the products. -/
def vSh (L : List (List Int)) (k : Nat) (tail : List Int) : Int := dotL (L.getD k []) tail
def vD (D : List Int) (k : Nat) : Int := D.getD k 0
def vSq (D : List Int) (k : Nat) (rest : Int) : Int := vD D k * rest
def vR (D : List Int) (k : Nat) (rest : Int) : Int := (isq (vSq D k rest).toNat : Nat)
def vLo (D : List Int) (L : List (List Int)) (k : Nat) (rest : Int) (tail : List Int) : Int := -((vR D k rest + vSh L k tail) / vD D (k + 1))
def vHi (D : List Int) (L : List (List Int)) (k : Nat) (rest : Int) (tail : List Int) : Int := (vR D k rest - vSh L k tail) / vD D (k + 1)
def vU (D : List Int) (L : List (List Int)) (k : Nat) (tail : List Int) (x : Int) : Int := vD D (k + 1) * x + vSh L k tail
def vRest (D : List Int) (L : List (List Int)) (k : Nat) (rest : Int) (tail : List Int) (x : Int) : Int := (vSq D k rest - vU D L k tail x * vU D L k tail x) / vD D (k + 1)
def vCnt (D : List Int) (L : List (List Int)) (k : Nat) (rest : Int) (tail : List Int) : Int := vHi D L k rest tail - vLo D L k rest tail + 1
/-- What the walk yields. -/
def visitY (D : List Int) (L : List (List Int)) (n : Nat) : Nat → Int → List Int → List (Int × Int)
  | 0, rest, tail => [((n : Int), vCnt D L 0 rest tail)]
  | k + 1, rest, tail => ((n : Int) - (k + 1 : Nat), vCnt D L (k + 1) rest tail) ::
      (List.range (vCnt D L (k + 1) rest tail).toNat).flatMap fun (j : Nat) => visitY D L n k (vRest D L (k + 1) rest tail (vLo D L (k + 1) rest tail + (j : Int))) ((vLo D L (k + 1) rest tail + (j : Int)) :: tail)
/-- The numbers of a walk. -/
structure NumOK (D : List Int) (L : List (List Int)) (n : Nat) (bound : Int) : Prop where
  n8 : n ≤ 8
  dl : D.length = n + 1
  ll : L.length = n
  row : ∀ k, k < n → (L.getD k []).length = n - 1 - k
  d1 : ∀ k, k ≤ n → 1 ≤ vD D k
  d2 : ∀ k, k ≤ n → vD D k < 65536
  lam : ∀ k, k < n → ∀ x ∈ L.getD k [], -(vD D (k + 1)) ≤ 2 * x ∧ 2 * x ≤ vD D (k + 1)
  b0 : 0 ≤ bound
  b1 : bound < 1073741824
/-- The state of the walk at one level. -/
structure LevOK (D : List Int) (n : Nat) (bound : Int) (k : Nat) (rest : Int) (tail : List Int) : Prop where
  kn : k < n
  r0 : 0 ≤ rest
  r1 : rest ≤ vD D (k + 1) * bound
  tl : tail.length = n - 1 - k
  ts : absSum tail + 4294967296 ≤ 4294967296 * 2 ^ tail.length
section
variable {D : List Int} {L : List (List Int)} {n : Nat} {bound : Int} {k : Nat} {rest : Int} {tail : List Int}
theorem vSq_bounds (hN : NumOK D L n bound) (h : LevOK D n bound k rest tail) : 0 ≤ vSq D k rest ∧ vSq D k rest < 4611686018427387904 := by
  have h1 := hN.d1 k (by have := h.kn; omega)
  have h2 := hN.d2 k (by have := h.kn; omega)
  have h3 := hN.d1 (k + 1) (by have := h.kn; omega)
  have h4 := hN.d2 (k + 1) (by have := h.kn; omega)
  have b0 := hN.b0
  have b1 := hN.b1
  have r0 := h.r0
  have r1 := h.r1
  have e1 : vD D (k + 1) * bound ≤ 65535 * 1073741823 := by
    have := mul_abs_le (a := vD D (k + 1)) (b := bound) (A := 65535) (B := 1073741823) (by omega) (by omega) (by omega) (by omega)
    exact this.2
  have e2 : vD D k * rest ≤ 65535 * (65535 * 1073741823) := by
    have := mul_abs_le (a := vD D k) (b := rest) (A := 65535) (B := 65535 * 1073741823) (by omega) (by omega) (by omega) (by omega)
    exact this.2
  refine ⟨Int.mul_nonneg (by omega) r0, ?_⟩
  unfold vSq
  omega
theorem vR_bounds (hN : NumOK D L n bound) (h : LevOK D n bound k rest tail) : 0 ≤ vR D k rest ∧ vR D k rest < 2147483648 ∧ vR D k rest * vR D k rest ≤ vSq D k rest := by
  obtain ⟨h0, h1⟩ := vSq_bounds hN h
  obtain ⟨s1, s2⟩ := isq_spec (vSq D k rest).toNat
  unfold vR
  obtain ⟨q, hq⟩ : ∃ q, q = isq (vSq D k rest).toNat := ⟨_, rfl⟩
  rw [← hq] at s1 ⊢
  refine ⟨by omega, ?_, ?_⟩
  · rcases Nat.lt_or_ge q 2147483648 with h | h
    · omega
    · have := Nat.mul_le_mul h h
      omega
  · have : ((q * q : Nat) : Int) ≤ vSq D k rest := by omega
    simpa using this
theorem pow_len_le {m : Nat} (h : m ≤ 7) : (2 : Int) ^ m ≤ 128 := by
  have h1 : (2 : Nat) ^ m ≤ 2 ^ 7 := Nat.pow_le_pow_right (by omega) h
  have h2 : ((2 ^ m : Nat) : Int) = (2 : Int) ^ m := by simp
  omega
theorem absSum_bound (hN : NumOK D L n bound) (h : LevOK D n bound k rest tail) : 0 ≤ absSum tail ∧ absSum tail ≤ 549755813888 := by
  have h1 := absSum_nonneg tail
  have h2 := h.ts
  have h3 := pow_len_le (m := tail.length) (by have := h.tl; have := hN.n8; omega)
  omega
theorem vSh_bounds (hN : NumOK D L n bound) (h : LevOK D n bound k rest tail) : -(vD D (k + 1) * absSum tail) ≤ 2 * vSh L k tail ∧ 2 * vSh L k tail ≤ vD D (k + 1) * absSum tail :=
  dotL_half _ (by have := hN.d1 (k + 1) (by have := h.kn; omega); omega) _ _ (hN.lam k h.kn)
theorem mulS_bound (hN : NumOK D L n bound) (h : LevOK D n bound k rest tail) : 0 ≤ vD D (k + 1) * absSum tail ∧ vD D (k + 1) * absSum tail ≤ 36028247263150080 := by
  have h1 := hN.d1 (k + 1) (by have := h.kn; omega)
  have h2 := hN.d2 (k + 1) (by have := h.kn; omega)
  have h3 := absSum_bound hN h
  have := mul_abs_le (a := vD D (k + 1)) (b := absSum tail) (A := 65535) (B := 549755813888) (by omega) (by omega) (by omega) (by omega)
  exact ⟨Int.mul_nonneg (by omega) h3.1, by omega⟩
theorem quot_bounds {r t d S q : Int} (hr : 0 ≤ r) (hd : 1 ≤ d) (h1 : -(d * S) ≤ 2 * t) (h2 : 2 * t ≤ d * S) (hq : q = (r + t) / d) : -S - 1 ≤ 2 * q ∧ 2 * q ≤ 2 * r + S := by
  have e1 := Int.mul_ediv_add_emod (r + t) d
  have e2 := Int.emod_nonneg (r + t) (show d ≠ 0 by omega)
  have e3 := Int.emod_lt_of_pos (r + t) (show 0 < d by omega)
  rw [← hq] at e1
  constructor
  · rcases Int.lt_or_le (2 * q) (-S - 1) with h | h
    · exfalso
      have h5 : d * (2 * q + 2) ≤ d * (-S) := Int.mul_le_mul_of_nonneg_left (by omega) (by omega)
      rw [Int.mul_neg, Int.mul_add, Int.mul_left_comm] at h5
      omega
    · exact h
  · rcases Int.lt_or_le (2 * r + S) (2 * q) with h | h
    · exfalso
      have h5 : d * (2 * r + S + 1) ≤ d * (2 * q) := Int.mul_le_mul_of_nonneg_left (by omega) (by omega)
      have h6 : 1 * (2 * r) ≤ d * (2 * r) := Int.mul_le_mul_of_nonneg_right hd (by omega)
      rw [Int.mul_add, Int.mul_add, Int.mul_left_comm d 2 q] at h5
      omega
    · exact h
/-- The ends of the interval are small. -/
theorem vEnds (hN : NumOK D L n bound) (h : LevOK D n bound k rest tail) :
    -(2 * vR D k rest + absSum tail) ≤ 2 * vLo D L k rest tail ∧ 2 * vLo D L k rest tail ≤ absSum tail + 1 ∧ -absSum tail - 1 ≤ 2 * vHi D L k rest tail ∧ 2 * vHi D L k rest tail ≤ 2 * vR D k rest + absSum tail := by
  obtain ⟨r0, r1, -⟩ := vR_bounds hN h
  obtain ⟨s1, s2⟩ := vSh_bounds hN h
  have hd := hN.d1 (k + 1) (by have := h.kn; omega)
  have hS := absSum_nonneg tail
  have a := quot_bounds r0 hd s1 s2 rfl
  have b := quot_bounds (t := -(vSh L k tail)) (S := absSum tail) r0 hd (by omega) (by omega) rfl
  unfold vLo vHi
  rw [show vR D k rest - vSh L k tail = vR D k rest + -(vSh L k tail) by omega]
  omega
/-- There is no gap: the count is not negative. -/
theorem vCnt_bounds (hN : NumOK D L n bound) (h : LevOK D n bound k rest tail) : 0 ≤ vCnt D L k rest tail ∧ vCnt D L k rest tail ≤ 1099511627776 := by
  obtain ⟨r0, r1, -⟩ := vR_bounds hN h
  obtain ⟨e1, e2, e3, e4⟩ := vEnds hN h
  have hS := absSum_bound hN h
  refine ⟨?_, by unfold vCnt; omega⟩
  have hd := hN.d1 (k + 1) (by have := h.kn; omega)
  unfold vCnt vLo vHi
  clear e1 e2 e3 e4
  generalize vD D (k + 1) = d at hd ⊢
  generalize vSh L k tail = t
  generalize vR D k rest = r at r0 r1 ⊢
  have a1 := Int.mul_ediv_add_emod (r + t) d
  have a2 := Int.emod_lt_of_pos (r + t) (show 0 < d by omega)
  have b1 := Int.mul_ediv_add_emod (r - t) d
  have b2 := Int.emod_lt_of_pos (r - t) (show 0 < d by omega)
  obtain ⟨p, hp⟩ : ∃ p, p = (r + t) / d := ⟨_, rfl⟩
  obtain ⟨q, hq⟩ : ∃ q, q = (r - t) / d := ⟨_, rfl⟩
  rw [← hp] at a1 ⊢
  rw [← hq] at b1 ⊢
  rcases Int.lt_or_le (p + q) (-1) with h | h
  · exfalso
    have h5 : d * (p + q) ≤ d * (-2) := Int.mul_le_mul_of_nonneg_left (by omega) (by omega)
    rw [Int.mul_add] at h5
    omega
  · omega
/-- Inside the interval the square is at most the one of the root. -/
theorem vU_bounds (hN : NumOK D L n bound) (h : LevOK D n bound k rest tail) {x : Int} (h1 : vLo D L k rest tail ≤ x) (h2 : x ≤ vHi D L k rest tail) : -(vR D k rest) ≤ vU D L k tail x ∧ vU D L k tail x ≤ vR D k rest := by
  have hd := hN.d1 (k + 1) (by have := h.kn; omega)
  unfold vLo at h1
  unfold vHi at h2
  unfold vU
  generalize vD D (k + 1) = d at hd h1 h2 ⊢
  generalize vSh L k tail = t at h1 h2 ⊢
  generalize vR D k rest = r at h1 h2 ⊢
  have a1 := Int.mul_ediv_add_emod (r + t) d
  have a2 := Int.emod_nonneg (r + t) (show d ≠ 0 by omega)
  have b1 := Int.mul_ediv_add_emod (r - t) d
  have b2 := Int.emod_nonneg (r - t) (show d ≠ 0 by omega)
  have c1 : d * (-x) ≤ d * ((r + t) / d) := Int.mul_le_mul_of_nonneg_left (by omega) (by omega)
  have c2 : d * x ≤ d * ((r - t) / d) := Int.mul_le_mul_of_nonneg_left (by omega) (by omega)
  rw [Int.mul_neg] at c1
  omega
theorem vRest_bounds (hN : NumOK D L n bound) (h : LevOK D n bound k rest tail) {x : Int} (h1 : vLo D L k rest tail ≤ x) (h2 : x ≤ vHi D L k rest tail) : 0 ≤ vSq D k rest - vU D L k tail x * vU D L k tail x ∧ 0 ≤ vU D L k tail x * vU D L k tail x ∧ 0 ≤ vRest D L k rest tail x ∧ vRest D L k rest tail x ≤ vD D k * bound := by
  obtain ⟨u1, u2⟩ := vU_bounds hN h h1 h2
  obtain ⟨r0, r1, r2⟩ := vR_bounds hN h
  have hd := hN.d1 (k + 1) (by have := h.kn; omega)
  have hdk := hN.d1 k (by have := h.kn; omega)
  obtain ⟨u, hu⟩ : ∃ u, u = vU D L k tail x := ⟨_, rfl⟩
  have hu2 := mul_abs_le (a := u) (b := u) (A := vR D k rest) (B := vR D k rest) (by omega) (by omega) (by omega) (by omega)
  have hu3 : 0 ≤ u * u := by
    rcases Int.le_total 0 u with h | h
    · exact Int.mul_nonneg h h
    · exact Int.mul_nonneg_of_nonpos_of_nonpos h h
  have hb := h.r1
  unfold vRest
  rw [← hu]
  have hq := vSq_bounds hN h
  have hp1 : 0 ≤ vSq D k rest - u * u := by omega
  refine ⟨hp1, hu3, Int.ediv_nonneg hp1 (by omega), ?_⟩
  have e1 : vSq D k rest - u * u ≤ vD D (k + 1) * (vD D k * bound) := by
    have : vD D k * rest ≤ vD D k * (vD D (k + 1) * bound) := Int.mul_le_mul_of_nonneg_left hb (by omega)
    rw [Int.mul_left_comm] at this
    unfold vSq; omega
  exact Int.ediv_le_of_le_mul (by omega) (by rw [Int.mul_comm (vD D k * bound)]; exact e1)
/-- The next level. -/
theorem LevOK.next (hN : NumOK D L n bound) (h : LevOK D n bound (k + 1) rest tail) {x : Int} (h1 : vLo D L (k + 1) rest tail ≤ x) (h2 : x ≤ vHi D L (k + 1) rest tail) : LevOK D n bound k (vRest D L (k + 1) rest tail x) (x :: tail) := by
  obtain ⟨-, -, a, b⟩ := vRest_bounds hN h h1 h2
  obtain ⟨r0, r1, -⟩ := vR_bounds hN h
  obtain ⟨e1, e2, e3, e4⟩ := vEnds hN h
  have hS := absSum_bound hN h
  have ht := h.ts
  refine ⟨by have := h.kn; omega, a, b, by simp [h.tl]; have := h.kn; omega, ?_⟩
  simp only [absSum, List.length_cons, Int.pow_succ]
  omega
end
end Go.Proofs.YtaaldapmkhamlaaGreat

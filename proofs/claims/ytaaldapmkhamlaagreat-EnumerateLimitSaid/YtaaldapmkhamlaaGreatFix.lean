/-
  The forms (1) and (2 1; 1 2): what the enumeration finds.
-/
import Derived.Test.YtaaldapmkhamlaaGreatEnum
namespace Go.Proofs.YtaaldapmkhamlaaGreat
open Go.RowKit
def m1 : List (List Int) := [[1]]
def m2 : List (List Int) := [[2, 1], [1, 2]]
theorem minors_m1 : minorsTo m1 1 = [1, 1] := by decide
theorem lam_m1 : lamTo m1 1 = [[]] := by decide
theorem minors_m2 : minorsTo m2 2 = [1, 2, 3] := by decide
theorem lam_m2 : lamTo m2 2 = [[1], []] := by decide
theorem all_m1 : AllLen m1 m1.length := by unfold AllLen; decide
theorem all_m2 : AllLen m2 m2.length := by unfold AllLen; decide
theorem red_m1 : RedM m1 := ⟨by decide, all_m1, by unfold Ent18; decide, by decide⟩
theorem red_m2 : RedM m2 := ⟨by decide, all_m2, by unfold Ent18; decide, by decide⟩
theorem num_m1 (bound : Int) (h0 : 0 ≤ bound) (h1 : bound < 1073741824) : NumOK (minorsTo m1 1) (lamTo m1 1) 1 bound := by
  rw [minors_m1, lam_m1]
  exact ⟨by decide, rfl, rfl, by decide, by decide, by decide, by decide, h0, h1⟩
theorem num_m2 (bound : Int) (h0 : 0 ≤ bound) (h1 : bound < 1073741824) : NumOK (minorsTo m2 2) (lamTo m2 2) 2 bound := by
  rw [minors_m2, lam_m2]
  exact ⟨by decide, rfl, rfl, by decide, by decide, by decide, by decide, h0, h1⟩
theorem lt2 {k : Nat} (h : k < 2) : k = 0 ∨ k = 1 := by omega
theorem elim_m1 : ElimOK m1 := by
  refine ⟨fun i j hi hj => ?_, fun k hk => absurd hk (by simp [m1]), fun k i j hi hj => absurd hi (by simp [m1]; omega)⟩
  have hi : i < 1 := hi
  have hj : j < 1 := hj
  obtain rfl : i = 0 := by omega
  obtain rfl : j = 0 := by omega
  decide
theorem elim_m2 : ElimOK m2 := by
  refine ⟨fun i j hi hj => ?_, fun k hk => ?_, fun k i j hi hj => ?_⟩
  · rcases lt2 hi with rfl | rfl <;> rcases lt2 hj with rfl | rfl <;> decide
  · have hk : k + 1 < 2 := hk
    obtain rfl : k = 0 := by omega
    decide
  · have hi : i + 1 < 2 - k := hi
    have hj : j + 1 < 2 - k := hj
    obtain rfl : k = 0 := by omega
    obtain rfl : i = 0 := by omega
    obtain rfl : j = 0 := by omega
    unfold CrossOK
    decide
theorem rows_m1 : Rows64 m1 := by
  intro k hk j hj
  have hk : k < 1 := hk
  obtain rfl : k = 0 := by omega
  have hj : j < 1 := hj
  obtain rfl : j = 0 := by omega
  decide
theorem rows_m2 : Rows64 m2 := by
  intro k hk j hj
  have hj : j < 2 - k := hj
  rcases lt2 hk with rfl | rfl
  · rcases lt2 hj with rfl | rfl <;> decide
  · obtain rfl : j = 0 := by omega
    decide
theorem form_m1 : FormOK m1 := ⟨by decide, all_m1, by unfold Fits64; decide, elim_m1, rows_m1, num_m1⟩
theorem form_m2 : FormOK m2 := ⟨by decide, all_m2, by unfold Fits64; decide, elim_m2, rows_m2, num_m2⟩
theorem s64_m1 : St64 m1 := by
  intro k hk
  have hk : k < 1 := hk
  obtain rfl : k = 0 := by omega
  unfold Fits64; decide
theorem s64_m2 : St64 m2 := by
  intro k hk
  rcases lt2 hk with rfl | rfl <;> (unfold Fits64; decide)
/-! ## The form (1) -/
theorem isq_sq (k : Nat) : isq (k * k) = k := isq_unique (Nat.le_refl _) (by rw [Nat.add_mul, Nat.mul_add]; omega)
theorem isq_m1 (k : Nat) : isq (((k : Int) * k) / ent m1 0 0).toNat = k := by
  have e : ((k : Int) * k) / ent m1 0 0 = ((k * k : Nat) : Int) := by
    show ((k : Int) * k) / 1 = _
    rw [Int.ediv_one]; simp
  rw [e, Int.toNat_natCast, isq_sq]
theorem coll_m1 (k : Nat) (exact : Bool) : collL m1 ((k : Int) * k) exact = multL 1 ((k : Int) * k) exact k := by
  have h : m1.length = 1 := rfl
  rw [collL, if_pos h, isq_m1]; rfl
theorem steps_m1 (k : Nat) (hk : k ≤ 9999) : stepsSpec m1 ((k : Int) * k) 20000 = ([2 * (k : Int) + 1], 0) := by
  have hkk : (k : Int) * k ≤ 9999 * 9999 := Int.mul_le_mul (by omega) (by omega) (by omega) (by omega)
  have hk0 : 0 ≤ (k : Int) * k := Int.mul_nonneg (by omega) (by omega)
  have h1 : isRedB m1 = true := red_m1.red
  have h2 : argsB ((k : Int) * k) 20000 = true := by simp only [argsB, decide_eq_true_eq]; omega
  have h3 : crowdB m1 ((k : Int) * k) = false := by simp [crowdB, m1]
  have h4 : stepsOf m1 ((k : Int) * k) 20000 = some (20000 - (2 * (k : Int) + 1), [2 * (k : Int) + 1]) := by
    have hl : m1.length = 1 := rfl
    have ht : tailsY (minorsTo m1 1) (lamTo m1 1) 1 ((k : Int) * k) = [(1, 2 * (k : Int) + 1)] := by
      rw [tailsY, if_pos rfl, minors_m1]
      have := isq_m1 k
      have e : ent m1 0 0 = vD [1, 1] 1 := rfl
      rw [e] at this
      rw [this]
    rw [stepsOf, hl, ht]
    simp only [stepsGo]
    rw [if_neg (by omega)]
    simp
  rw [stepsSpec, h1, h2, h3, h4]; rfl
theorem mult_all (b : Int) (k : Nat) : multL 1 b false k = (List.range k).map fun (i : Nat) => [(i : Int) + 1] := by
  simp only [multL, Bool.not_false, Bool.true_or]
  rw [List.filter_eq_self.2 (fun _ _ => rfl)]
theorem mult_exact (k : Nat) (h1 : 1 ≤ k) : multL 1 ((k : Int) * k) true k = [[(k : Int)]] := by
  obtain ⟨j, rfl⟩ : ∃ j, k = j + 1 := ⟨k - 1, by omega⟩
  have hf : (List.range j).filter (fun (i : Nat) => !true || decide (1 * ((i : Int) + 1) * ((i : Int) + 1) = ((j + 1 : Nat) : Int) * ((j + 1 : Nat) : Int))) = [] := by
    rw [List.filter_eq_nil_iff]
    intro i hi
    have hi : i < j := List.mem_range.1 hi
    simp only [Bool.not_true, Bool.false_or, decide_eq_true_eq]
    intro hh
    have : ((i : Int) + 1) * ((i : Int) + 1) < ((j + 1 : Nat) : Int) * ((j + 1 : Nat) : Int) := Int.mul_lt_mul (by omega) (by omega) (by omega) (by omega)
    rw [Int.one_mul] at hh
    omega
  rw [multL, List.range_succ, List.filter_append, hf]
  simp
theorem vec_m1 (x : Int) (h1 : 1 ≤ x) (h2 : x ≤ 1048576) : VecOK m1 [x] := by
  have hx : x * x ≤ 1048576 * 1048576 := Int.mul_le_mul h2 h2 (by omega) (by omega)
  have hx0 : 0 ≤ x * x := Int.mul_nonneg (by omega) (by omega)
  refine ⟨?_, ?_, ?_⟩
  · simp [fitsB, inRangeB, m1]; omega
  · have : nrm m1 [x] = x * x := by simp [nrm, applyL, m1, dotL]
    rw [this]; simp [dotB]; omega
  · simp [canonB, inRangeB, firstNZ]; omega
theorem canon_pos (x : Int) (h1 : 1 ≤ x) : canonL [x] = [x] := by
  have : firstNZ [x] = x := by simp [firstNZ]; intro; omega
  rw [canonL, this, if_neg (by omega)]
theorem canon_all (k : Nat) : ((List.range k).map fun (i : Nat) => [(i : Int) + 1]).map canonL = (List.range k).map fun (i : Nat) => [(i : Int) + 1] := by
  rw [List.map_map]
  refine List.map_congr_left fun i _ => ?_
  exact canon_pos _ (by omega)
theorem enum_m1 (k : Nat) (h1 : 1 ≤ k) (hk : k ≤ 9999) (exact : Bool) : EnumOK m1 ((k : Int) * k) exact := by
  refine ⟨form_m1, s64_m1, red_m1, Int.mul_nonneg (by omega) (by omega), fun h => absurd h (by simp [m1]), fun _ => by rw [isq_m1]; omega, ?_, ?_, ?_⟩
  all_goals rw [coll_m1]
  · have := multL_len 1 ((k : Int) * k) exact k
    omega
  · cases exact
    · rw [mult_all]
      intro x hx
      obtain ⟨i, hi, rfl⟩ := List.mem_map.1 hx
      have := List.mem_range.1 hi
      exact vec_m1 _ (by omega) (by omega)
    · rw [mult_exact k h1]
      intro x hx
      obtain rfl := List.mem_singleton.1 hx
      exact vec_m1 _ (by omega) (by omega)
  · cases exact
    · rw [mult_all, canon_all, List.Nodup, List.pairwise_map]
      refine List.Pairwise.imp ?_ (List.nodup_range (n := k))
      intro a b hab h
      injection h with h
      omega
    · rw [mult_exact k h1]; simp
/-! ## The form of example 1 -/
theorem coll_m2 : collL m2 2 false = [[1, 0], [-1, 1], [0, 1]] := by decide
theorem steps_m2 : stepsSpec m2 2 100 = ([3, 7], 0) := by decide
theorem enum_m2 : EnumOK m2 2 false := by
  refine ⟨form_m2, s64_m2, red_m2, by decide, by decide, by decide, by decide, ?_, by decide⟩
  rw [coll_m2]
  intro x hx
  simp only [List.mem_cons, List.not_mem_nil, or_false] at hx
  rcases hx with rfl | rfl | rfl <;> exact ⟨by decide, by decide, by decide⟩
end Go.Proofs.YtaaldapmkhamlaaGreat

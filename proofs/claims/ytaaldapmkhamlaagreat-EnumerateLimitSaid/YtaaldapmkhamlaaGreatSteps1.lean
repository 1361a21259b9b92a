/-
  What Steps returns; its contract where it refuses.
-/
import Derived.Test.YtaaldapmkhamlaaGreatRange
namespace Go.Proofs.YtaaldapmkhamlaaGreat
open Go.RowKit Go.Shelf
attribute [local go_sem] Oper.semAt_some
/-- The numbers of tails, as long as the budget lasts. -/
def stepsGo : List (Int × Int) → Int → List Int → Option (Int × List Int)
  | [], left, st => some (left, st)
  | (len, cnt) :: ys, left, st => if left < cnt then none else stepsGo ys (left - cnt) (st.set (len - 1).toNat (st.getD (len - 1).toNat 0 + cnt))
theorem stepsGo_append (xs ys : List (Int × Int)) : ∀ (left : Int) (st : List Int), stepsGo (xs ++ ys) left st = (stepsGo xs left st).bind fun p => stepsGo ys p.1 p.2 := by
  induction xs with
  | nil => intro left st; rfl
  | cons x xs ih =>
    intro left st
    obtain ⟨len, cnt⟩ := x
    simp only [List.cons_append, stepsGo]
    split
    · rfl
    · exact ih _ _
/-- What is known of a reduced form. -/
structure FormOK (m : List (List Int)) : Prop where
  len1 : 1 ≤ m.length
  all : AllLen m m.length
  fits : Fits64 m
  elim : ElimOK m
  rows : Rows64 m
  num : ∀ bound, 0 ≤ bound → bound < 1073741824 → NumOK (minorsTo m m.length) (lamTo m m.length) m.length bound
def stepsOf (m : List (List Int)) (bound budget : Int) : Option (Int × List Int) := stepsGo (tailsY (minorsTo m m.length) (lamTo m m.length) m.length bound) budget (List.replicate m.length 0)
def argsB (bound budget : Int) : Bool := decide (0 ≤ bound ∧ bound ≤ 4611686018427387904 ∧ 0 ≤ budget ∧ budget ≤ 1000000)
def crowdB (m : List (List Int)) (bound : Int) : Bool := decide (1 < m.length ∧ 1073741824 ≤ bound)
/-- What Steps returns. -/
def stepsSpec (m : List (List Int)) (bound budget : Int) : List Int × Int :=
  if isRedB m then (if argsB bound budget then (if crowdB m bound then ([], 9) else match stepsOf m bound budget with | some p => (p.2, 0) | none => ([], 9)) else ([], 1)) else ([], 6)
def RetSteps (w : World) (p : List Int × Int) (e : Ending) (w' : World) : Prop := ∃ A c, e = .returned (.tuple #[.slice A p.1.length c, .int .i64 p.2]) ∧ Ints w' A 3 .i64 p.1 ∧ p.1.length ≤ c ∧ c ≤ 9223372036854775807 ∧ Step w w'
theorem RetSteps.err {w : World} {p : List Int × Int} {k : Int} {w' : World} (h : p = ([], k)) (hs : Step w w') : RetSteps w p (.returned (.tuple #[.slice none 0 0, .int .i64 k])) w' := by
  subst h; exact ⟨none, 0, rfl, Ints.nil, Nat.le_refl _, by omega, hs⟩
set_option maxHeartbeats 1000000 in
theorem Steps_bad {w0 w : World} {A : Option Addr} {c : Nat} {m : List (List Int)} {bound budget : Int} (h : Mat64 w0 A m) (hlen : m.length ≤ 1099511627776) (hc : m.length ≤ c) (hc2 : c ≤ 9223372036854775807) (hb : isRedB m = false ∨ argsB bound budget = false ∨ crowdB m bound = true) [hx : Ext w0 w] :
    Calls Tryz.prog 26 #[.slice A m.length c, .int .i64 bound, .int .i64 budget] w (RetSteps w (stepsSpec m bound budget)) := by
  have hred := fun W (hxx : Ext w0 W) => IsReduced_any (w := W) h hlen hc hc2
  have HR := Lib.hid hred
  clear hred
  cases hr : isRedB m
  · have HS := Lib.hid (show stepsSpec m bound budget = ([], 6) by simp [stepsSpec, hr])
    rw [hr] at HR
    clear hb hr
    go_enter Tryz.func26, Tryz.ntmps26
    go_wp2_with (go_at_call 31; refine (HR.out _ inferInstance).mono ?_; rintro e w1 ⟨rfl, hs1⟩)
    exact bodyPost_ret (v := .tuple #[.slice none 0 0, .int .i64 6]) (by simp [results, Tryz.results26, go_sem]) rfl (RetSteps.err HS.out (Step.of _ _))
  · rw [hr] at HR
    have hb' : argsB bound budget = false ∨ crowdB m bound = true := by simpa [hr] using hb
    clear hb
    cases ha : argsB bound budget
    · have HS := Lib.hid (show stepsSpec m bound budget = ([], 1) by simp [stepsSpec, hr, ha])
      have ha' : ¬ (0 ≤ bound ∧ bound ≤ 4611686018427387904 ∧ 0 ≤ budget ∧ budget ≤ 1000000) := by simpa [argsB] using ha
      clear hb' ha hr
      by_cases g0 : bound < 0
      · have d0 : decide (bound < 0) = true := by simpa using g0
        clear g0 ha'
        go_enter Tryz.func26, Tryz.ntmps26
        go_wp2_with (go_at_call 31; refine (HR.out _ inferInstance).mono ?_; rintro e w1 ⟨rfl, hs1⟩)
        exact bodyPost_ret (v := .tuple #[.slice none 0 0, .int .i64 1]) (by simp [results, Tryz.results26, go_sem]) rfl (RetSteps.err HS.out (Step.of _ _))
      have d0 : decide (bound < 0) = false := by simpa using g0
      by_cases g1 : 4611686018427387904 < bound
      · have d1 : decide (4611686018427387904 < bound) = true := by simpa using g1
        clear g1 ha'
        go_enter Tryz.func26, Tryz.ntmps26
        go_wp2_with (go_at_call 31; refine (HR.out _ inferInstance).mono ?_; rintro e w1 ⟨rfl, hs1⟩)
        exact bodyPost_ret (v := .tuple #[.slice none 0 0, .int .i64 1]) (by simp [results, Tryz.results26, go_sem]) rfl (RetSteps.err HS.out (Step.of _ _))
      have d1 : decide (4611686018427387904 < bound) = false := by simpa using g1
      by_cases g2 : budget < 0
      · have d2 : decide (budget < 0) = true := by simpa using g2
        clear g2 ha'
        go_enter Tryz.func26, Tryz.ntmps26
        go_wp2_with (go_at_call 31; refine (HR.out _ inferInstance).mono ?_; rintro e w1 ⟨rfl, hs1⟩)
        exact bodyPost_ret (v := .tuple #[.slice none 0 0, .int .i64 1]) (by simp [results, Tryz.results26, go_sem]) rfl (RetSteps.err HS.out (Step.of _ _))
      have d2 : decide (budget < 0) = false := by simpa using g2
      by_cases g3 : 1000000 < budget
      · have d3 : decide (1000000 < budget) = true := by simpa using g3
        clear g3 ha'
        go_enter Tryz.func26, Tryz.ntmps26
        go_wp2_with (go_at_call 31; refine (HR.out _ inferInstance).mono ?_; rintro e w1 ⟨rfl, hs1⟩)
        exact bodyPost_ret (v := .tuple #[.slice none 0 0, .int .i64 1]) (by simp [results, Tryz.results26, go_sem]) rfl (RetSteps.err HS.out (Step.of _ _))
      have d3 : decide (1000000 < budget) = false := by simpa using g3
      exact absurd (by omega) ha'
    · have hcr : crowdB m bound = true := by simpa [ha] using hb'
      have HS := Lib.hid (show stepsSpec m bound budget = ([], 9) by simp [stepsSpec, hr, ha, hcr])
      have ha' : 0 ≤ bound ∧ bound ≤ 4611686018427387904 ∧ 0 ≤ budget ∧ budget ≤ 1000000 := by simpa [argsB] using ha
      have hc' : 1 < m.length ∧ 1073741824 ≤ bound := by simpa [crowdB] using hcr
      obtain ⟨a1, a2, a3, a4⟩ := ha'
      obtain ⟨c1, c2⟩ := hc'
      clear hb' ha hr hcr
      go_enter Tryz.func26, Tryz.ntmps26
      go_wp2_with (go_at_call 31; refine (HR.out _ inferInstance).mono ?_; rintro e w1 ⟨rfl, hs1⟩)
      exact bodyPost_ret (v := .tuple #[.slice none 0 0, .int .i64 9]) (by simp [results, Tryz.results26, go_sem]) rfl (RetSteps.err HS.out (Step.of _ _))
end Go.Proofs.YtaaldapmkhamlaaGreat

/-
  Comparisons: the contracts of Compare and compareByNorm of the package vector.
-/
import Derived.Test.YtaaldapmkhamlaaGreatVec5
import Derived.Stop.RegionWithIn
import Derived.Deep.RegionHeld3
namespace Go.Proofs.YtaaldapmkhamlaaGreat
open Go.RowKit
theorem cmp_Compare_any {w : World} (a b : Int) : Calls Tryz.prog 88 #[.int .i64 a, .int .i64 b] w (RetSame w (.int .i64 (cmpI a b))) := by
  by_cases h1 : a < b
  · have HC := Lib.hid (cmpI_lt h1)
    have d1 : decide (a < b) = true := by simpa using h1
    clear h1
    go_enter Tryz.func88, Tryz.ntmps88
    go_wp2
    go_ret
    exact ⟨by rw [HC.out]; rfl, rfl⟩
  · have d1 : decide (a < b) = false := by simpa using h1
    by_cases h2 : b < a
    · have HC := Lib.hid (cmpI_gt h2)
      have d2 : decide (b < a) = true := by simpa using h2
      clear h1 h2
      go_enter Tryz.func88, Tryz.ntmps88
      go_wp2
      go_ret
      exact ⟨by rw [HC.out]; rfl, rfl⟩
    · have HC := Lib.hid (cmpI_eq (show a = b by omega))
      have d2 : decide (b < a) = false := by simpa using h2
      clear h1 h2
      go_enter Tryz.func88, Tryz.ntmps88
      go_wp2
      go_ret
      exact ⟨by rw [HC.out]; rfl, rfl⟩
/-- The lexicographic order. -/
def lexI : List Int → List Int → Int
  | [], [] => 0
  | [], _ :: _ => -1
  | _ :: _, [] => 1
  | a :: l, b :: m => if cmpI a b = 0 then lexI l m else cmpI a b
set_option maxHeartbeats 1000000 in
theorem slices_Compare_any {w0 w : World} {X Y : Option Addr} {c d : Nat} {x y : List Int} (hX : Ints w0 X 2 .i64 x) (hY : Ints w0 Y 2 .i64 y) (hx1 : x.length ≤ 1099511627776) (hy1 : y.length ≤ 1099511627776) [hx : Ext w0 w] :
    Calls Tryz.prog 129 #[.slice X x.length c, .slice Y y.length d] w (RetSame w (.int .i64 (lexI x y))) := by
  have hX0 := hX.ext hx
  have hY0 := hY.ext hx
  go_enter Tryz.func129, Tryz.ntmps129
  go_wp2
  go_loop [5, 6, 7, 8, 11] (fun _ _ _ _ i => ∃ k : Nat, k ≤ x.length ∧ k ≤ y.length ∧ i = .int .i64 k ∧ Hid (lexI x y = lexI (x.drop k) (y.drop k))) (fun _ _ _ _ i => x.length - (intOf i).toNat)
  case atStart => exact ⟨0, by omega, by omega, rfl, Lib.hid rfl⟩
  case round =>
    obtain ⟨k, hk1, hk2, rfl, HE⟩ := hrel
    by_cases hlt : k < x.length
    · obtain ⟨b1, o1, a, rfl, ha, g1, g2⟩ := hX0.at_ hlt
      by_cases hlt2 : k < y.length
      · obtain ⟨b2, o2, b, rfl, hb, g3, g4⟩ := hY0.at_ hlt2
        have ea : x.drop k = a :: x.drop (k + 1) := by rw [List.drop_eq_getElem_cons hlt, (List.getElem?_eq_some_iff.1 ha).2]
        have eb : y.drop k = b :: y.drop (k + 1) := by rw [List.drop_eq_getElem_cons hlt2, (List.getElem?_eq_some_iff.1 hb).2]
        have HE2 : Hid (lexI x y = if cmpI a b = 0 then lexI (x.drop (k + 1)) (y.drop (k + 1)) else cmpI a b) := Lib.hid (by rw [HE.out, ea, eb, lexI])
        have hd : decide ((y.length : Int) ≤ (k : Int)) = false := by simp; omega
        obtain ⟨z, hz⟩ : ∃ z, z = cmpI a b := ⟨_, rfl⟩
        have hc := fun W => cmp_Compare_any (w := W) a b
        rw [← hz] at HE2 hc
        have HC := Lib.hid hc
        clear ha hb ea eb hz hc HE
        by_cases hz0 : z = 0
        · have hzb : (z != 0) = false := by simp [hz0]
          have HE3 : Hid (lexI x y = lexI (x.drop (k + 1)) (y.drop (k + 1))) := Lib.hid (by rw [HE2.out, if_pos hz0])
          clear hz0 HE2
          go_wp2_with (go_at_call 88; refine (HC.out _).mono ?_; rintro e w' ⟨rfl, rfl⟩)
          refine ⟨⟨k + 1, by omega, by omega, by go_num, HE3⟩, by simp [intOf] <;> omega⟩
        · have hzb : (z != 0) = true := by simp [hz0]
          have HE3 : Hid (lexI x y = z) := Lib.hid (by rw [HE2.out, if_neg hz0])
          clear hz0 HE2
          go_wp2_with (go_at_call 88; refine (HC.out _).mono ?_; rintro e w' ⟨rfl, rfl⟩)
          go_ret
          exact ⟨by rw [HE3.out]; rfl, rfl⟩
      · have ea : x.drop k = a :: x.drop (k + 1) := by rw [List.drop_eq_getElem_cons hlt, (List.getElem?_eq_some_iff.1 ha).2]
        have ey : y.drop k = [] := List.drop_eq_nil_of_le (by omega)
        have HE2 : Hid (lexI x y = 1) := Lib.hid (by rw [HE.out, ea, ey]; rfl)
        have hd : decide ((y.length : Int) ≤ (k : Int)) = true := by simp; omega
        clear ha ea ey HE
        go_wp2
        go_ret
        exact ⟨by rw [HE2.out]; rfl, rfl⟩
    · have hkx : k = x.length := by omega
      by_cases hlt2 : x.length < y.length
      · have HE2 : Hid (lexI x y = -1) := Lib.hid (by
          rw [HE.out, List.drop_eq_nil_of_le (by omega), List.drop_eq_getElem_cons (by omega : k < y.length)]; rfl)
        clear HE hkx
        go_wp2
        go_ret
        exact ⟨by rw [HE2.out]; rfl, rfl⟩
      · have HE2 : Hid (lexI x y = 0) := Lib.hid (by
          rw [HE.out, List.drop_eq_nil_of_le (by omega), List.drop_eq_nil_of_le (by omega)]; rfl)
        clear HE hkx
        go_wp2
        go_ret
        exact ⟨by rw [HE2.out]; rfl, rfl⟩
theorem vCompare_any {w0 w : World} {X Y : Option Addr} {c d : Nat} {x y : List Int} (hX : Ints w0 X 2 .i64 x) (hY : Ints w0 Y 2 .i64 y) (hx1 : x.length ≤ 1099511627776) (hy1 : y.length ≤ 1099511627776) [hx : Ext w0 w] :
    Calls Tryz.prog 89 #[.slice X x.length c, .slice Y y.length d] w (RetSame w (.int .i64 (lexI x y))) := by
  go_enter Tryz.func89, Tryz.ntmps89
  go_wp2_with (go_at_call 129; refine (slices_Compare_any hX hY hx1 hy1).mono ?_; rintro e w' ⟨rfl, rfl⟩)
  go_ret
  exact ⟨rfl, rfl⟩
def orI (a b : Int) : Int := if a = 0 then b else a
theorem cmp_Or_any {w : World} {g : Nat} {a b : Int} (h1 : w.cell? ⟨g, 0, none⟩ = some (.int .i64 a)) (h2 : w.cell? ⟨g, 1, none⟩ = some (.int .i64 b)) :
    Calls Tryz.prog 87 #[.slice (some ⟨g, 0, none⟩) 2 2] w (RetSame w (.int .i64 (orI a b))) := by
  go_enter Tryz.func87, Tryz.ntmps87
  go_wp2
  go_loop [5, 8] (fun _ i => (i = .int .i64 0) ∨ (i = .int .i64 1 ∧ a = 0) ∨ (i = .int .i64 2 ∧ a = 0 ∧ b = 0)) (fun _ i => 2 - (intOf i).toNat)
  case atStart => exact .inl rfl
  case round =>
    rcases hrel with rfl | ⟨rfl, ha⟩ | ⟨rfl, ha, hb⟩
    · by_cases h0 : a = 0
      · have hb0 : (a != 0) = false := by simp [h0]
        have H0 := Lib.hid h0
        clear h0
        go_wp2
        exact ⟨.inr (.inl ⟨rfl, H0.out⟩), by decide⟩
      · have hb0 : (a != 0) = true := by simp [h0]
        have HV : Hid (orI a b = a) := Lib.hid (if_neg h0)
        clear h0
        go_wp2
        go_ret
        exact ⟨by rw [HV.out]; rfl, rfl⟩
    · have HA := Lib.hid ha
      by_cases h0 : b = 0
      · have hb0 : (b != 0) = false := by simp [h0]
        have H0 := Lib.hid h0
        clear h0 ha
        go_wp2
        exact ⟨.inr (.inr ⟨rfl, HA.out, H0.out⟩), by decide⟩
      · have hb0 : (b != 0) = true := by simp [h0]
        have HV : Hid (orI a b = b) := Lib.hid (if_pos ha)
        clear h0 ha
        go_wp2
        go_ret
        exact ⟨by rw [HV.out]; rfl, rfl⟩
    · have HV : Hid (orI a b = 0) := Lib.hid (by unfold orI; rw [if_pos ha, hb])
      clear ha hb
      go_wp2
      go_ret
      exact ⟨by rw [HV.out]; rfl, rfl⟩
/-- The order by norm, and for equal norms lexicographically. -/
def cmpK (a b : Int) (x y : List Int) : Int := orI (cmpI a b) (lexI x y)
set_option maxHeartbeats 1000000 in
theorem compareByNorm_any {w : World} {X Y : Option Addr} {a b : Int} {c d : Nat} {x y : List Int} (hX : Ints w X 2 .i64 x) (hY : Ints w Y 2 .i64 y) (hx1 : x.length ≤ 1099511627776) (hy1 : y.length ≤ 1099511627776) :
    Calls Tryz.prog 48 #[.agg #[.int .i64 a, .slice X x.length c], .agg #[.int .i64 b, .slice Y y.length d]] w fun e w' => e = .returned (.int .i64 (cmpK a b x y)) ∧ ∃ q os, w' = Sort.grow (w.drewN q) os := by
  obtain ⟨k1, hk1⟩ : ∃ k1, k1 = cmpI a b := ⟨_, rfl⟩
  obtain ⟨k2, hk2⟩ : ∃ k2, k2 = lexI x y := ⟨_, rfl⟩
  have hc1 := fun W => cmp_Compare_any (w := W) a b
  have hc2 := fun W (hh : Ext w W) => vCompare_any (w := W) (c := c) (d := d) hX hY hx1 hy1
  rw [← hk1] at hc1
  rw [← hk2] at hc2
  have HK : Hid (cmpK a b x y = orI k1 k2) := Lib.hid (by rw [hk1, hk2]; rfl)
  have H1 := Lib.hid hc1
  have H2 := Lib.hid hc2
  clear hc1 hc2 hk1 hk2
  go_enter Tryz.func48, Tryz.ntmps48
  go_wp2_with fail
  go_region_held3 (fun w' => w'.cell? ⟨w.heap.size, 0, none⟩ = some (.int .i64 a) ∧ w'.cell? ⟨w.heap.size, 1, none⟩ = some (.slice X x.length c) ∧ w'.cell? ⟨w.heap.size + 1, 0, none⟩ = some (.int .i64 b) ∧ w'.cell? ⟨w.heap.size + 1, 1, none⟩ = some (.slice Y y.length d)) (exact boxes2 w _ _ _ _ _ 110 110)
    (first
      | (go_at_call 88; refine (H1.out _).mono ?_; rintro e w' ⟨rfl, rfl⟩)
      | (go_at_call 89; refine (H2.out _ inferInstance).mono ?_; rintro e w' ⟨rfl, rfl⟩)
      | (go_at_call 87; refine (cmp_Or_any (a := k1) (b := k2) (by simp [go_sem]) (by simp [go_sem])).mono ?_; rintro e w' ⟨rfl, rfl⟩))
  go_wp2
  go_ret
  refine ⟨by rw [HK.out]; rfl, 1, #[.cells #[.int .i64 a, .slice X x.length c] 110, .cells #[.int .i64 b, .slice Y y.length d] 110, .cells #[.int .i64 k1, .int .i64 k2] 3], ?_⟩
  rw [Sort.alloc_eq_grow, Sort.alloc_eq_grow, Sort.alloc_eq_grow, Sort.grow_grow, Sort.grow_grow]; rfl
end Go.Proofs.YtaaldapmkhamlaaGreat

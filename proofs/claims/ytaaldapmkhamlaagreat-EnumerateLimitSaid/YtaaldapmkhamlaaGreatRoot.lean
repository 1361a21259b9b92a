/-
  Contracts of the functions floor and root of the packages schur and enumerate.
-/
import Derived.Test.YtaaldapmkhamlaaGreatLll
import Derived.Test.YtaaldapmkhamlaaGreatShelf
import Derived.Test.YtaaldapmkhamlaaGreatRt
namespace Go.Proofs.YtaaldapmkhamlaaGreat
open Go.RowKit
theorem schur_floor_any {w : World} {a b : Int} (ha0 : -9223372036854775807 ≤ a) (ha1 : a ≤ 9223372036854775807) (hb : 1 ≤ b) (hb1 : b ≤ 9223372036854775807) :
    Calls Tryz.prog 127 #[.int .i64 a, .int .i64 b] w (RetSame w (.int .i64 (a / b))) := by
  have HF := Lib.hid (floor_eq (a := a) (b := b) (by omega))
  have hq := tdiv_between a b hb
  have hq1 : -9223372036854775807 ≤ a.tdiv b := by omega
  have hq2 : a.tdiv b ≤ 9223372036854775807 := by omega
  have hm := Lib.hid (Int.tmod_def a b)
  have hr : -9223372036854775807 ≤ a.tmod b ∧ a.tmod b ≤ 9223372036854775807 := by
    have h1 := Int.tmod_lt_of_pos a (show 0 < b by omega)
    have h2 := Int.lt_tmod_of_pos a (show 0 < b by omega)
    omega
  have hb0 : (b == 0) = false := by simp; omega
  clear hq
  by_cases hneg : a.tmod b < 0
  · have hd : decide (a.tmod b < 0) = true := by simpa using hneg
    have HV := Lib.hid (HF.out.trans (if_pos hneg))
    clear hneg HF
    go_enter Tryz.func127, Tryz.ntmps127
    go_wp2
    go_ret
    exact ⟨by rw [HV.out]; rfl, rfl⟩
  · have hd : decide (a.tmod b < 0) = false := by simpa using hneg
    have HV := Lib.hid (HF.out.trans (if_neg hneg))
    clear hneg HF
    go_enter Tryz.func127, Tryz.ntmps127
    go_wp2
    go_ret
    exact ⟨by rw [HV.out]; rfl, rfl⟩

set_option maxRecDepth 10000 in
theorem schur_root_any {w : World} {a : Nat} (ha : a < 9223372036854775808) :
    Calls Tryz.prog 85 #[.int .i64 a] w (RetSame w (.int .i64 (isq a))) := by
  by_cases h0 : a = 0
  · subst h0
    go_enter Tryz.func85, Tryz.ntmps85
    go_wp2
    go_ret
    exact ⟨rfl, rfl⟩
  have hb0 : ((a : Int) == 0) = false := by simp; omega
  have h1 : 1 ≤ a := by omega
  obtain ⟨s, hs, hs32, hroot, hL1, hL2⟩ := root_start h1 ha
  obtain ⟨L, hL⟩ : ∃ L, L = Lib.bitLen a := ⟨_, rfl⟩
  rw [← hL] at hs hL1 hL2
  have hp : (2 : Nat) ^ s ≤ 2 ^ 32 := Nat.pow_le_pow_right (by omega) hs32
  have hp1 : 1 ≤ (2 : Nat) ^ s := Nat.one_le_two_pow
  have hst : ((L : Int) + 1) / 2 = (s : Int) := by omega
  have hpw : (2 : Int) ^ s = ((2 ^ s : Nat) : Int) := by simp
  obtain ⟨p, hpp⟩ : ∃ p, p = 2 ^ s := ⟨_, rfl⟩
  rw [← hpp] at hpw hp1 hp hroot
  have HL := Lib.hid hL
  have hc := Tryz.bits_Len64 (a : Int) w (by omega) (by omega)
  rw [show ((a : Int).toNat) = a by omega, ← hL] at hc
  have HC := Lib.hid hc
  have HR := Lib.hid hroot
  clear hc hL h0 hpp hs hroot
  go_enter Tryz.func85, Tryz.ntmps85
  go_wp2_with fail
  refine HC.out.mono ?_
  rintro e w' ⟨rfl, rfl⟩
  go_wp2
  go_loop [3, 4] (fun r _ => ∃ p : Nat, 1 ≤ p ∧ p ≤ 4294967296 ∧ Hid (isq a ≤ p) ∧ r = .int .i64 p) (fun r _ => (intOf r).toNat)
  case atStart => exact ⟨p, hp1, by omega, HR, rfl⟩
  case round =>
    clear HR hpw hp hp1 hst HL HC hL1 hL2 hs32
    obtain ⟨p, hp1, hp, HR, rfl⟩ := hrel
    have hge := Lib.hid (newton_ge (a := a) hp1)
    have hend := Lib.hid (newton_end (a := a) hp1)
    have hy := newton_quot (a := a) HR.out
    obtain ⟨y, ey⟩ : ∃ y, y = a / p := ⟨_, rfl⟩
    have hdiv : (a : Int) / (p : Int) = (y : Int) := by rw [ey]; simp
    rw [← ey] at hge hend hy
    obtain ⟨q, eq⟩ : ∃ q, q = (p + y) / 2 := ⟨_, rfl⟩
    have hdiv2 : ((p : Int) + (y : Int)) / 2 = (q : Int) := by omega
    have hq : q ≤ p + 1 := by omega
    rw [← eq] at hge hend
    clear ey eq
    by_cases hle : p ≤ q
    · have HV := Lib.hid (hend.out hle HR.out)
      go_wp2
      go_ret
      exact ⟨by rw [HV.out]; rfl, rfl⟩
    · have hlt : q < p := by omega
      have hq1 : 1 ≤ q := by
        have := hge.out
        have h2 := (isq_spec a).2
        rcases Nat.lt_or_ge 0 (isq a) with h | h
        · omega
        · have : isq a = 0 := by omega
          rw [this] at h2; omega
      go_wp2
      refine ⟨⟨q, hq1, by omega, hge, by rw [hdiv2]⟩, by rw [hdiv2]; simp [intOf] <;> omega⟩

theorem enumerate_floor_any {w : World} {a b : Int} (ha0 : -9223372036854775807 ≤ a) (ha1 : a ≤ 9223372036854775807) (hb : 1 ≤ b) (hb1 : b ≤ 9223372036854775807) :
    Calls Tryz.prog 58 #[.int .i64 a, .int .i64 b] w (RetSame w (.int .i64 (a / b))) := by
  have HF := Lib.hid (floor_eq (a := a) (b := b) (by omega))
  have hq := tdiv_between a b hb
  have hq1 : -9223372036854775807 ≤ a.tdiv b := by omega
  have hq2 : a.tdiv b ≤ 9223372036854775807 := by omega
  have hm := Lib.hid (Int.tmod_def a b)
  have hr : -9223372036854775807 ≤ a.tmod b ∧ a.tmod b ≤ 9223372036854775807 := by
    have h1 := Int.tmod_lt_of_pos a (show 0 < b by omega)
    have h2 := Int.lt_tmod_of_pos a (show 0 < b by omega)
    omega
  have hb0 : (b == 0) = false := by simp; omega
  clear hq
  by_cases hneg : a.tmod b < 0
  · have hd : decide (a.tmod b < 0) = true := by simpa using hneg
    have HV := Lib.hid (HF.out.trans (if_pos hneg))
    clear hneg HF
    go_enter Tryz.func58, Tryz.ntmps58
    go_wp2
    go_ret
    exact ⟨by rw [HV.out]; rfl, rfl⟩
  · have hd : decide (a.tmod b < 0) = false := by simpa using hneg
    have HV := Lib.hid (HF.out.trans (if_neg hneg))
    clear hneg HF
    go_enter Tryz.func58, Tryz.ntmps58
    go_wp2
    go_ret
    exact ⟨by rw [HV.out]; rfl, rfl⟩

set_option maxRecDepth 10000 in
theorem enumerate_root_any {w : World} {a : Nat} (ha : a < 9223372036854775808) :
    Calls Tryz.prog 57 #[.int .i64 a] w (RetSame w (.int .i64 (isq a))) := by
  by_cases h0 : a = 0
  · subst h0
    go_enter Tryz.func57, Tryz.ntmps57
    go_wp2
    go_ret
    exact ⟨rfl, rfl⟩
  have hb0 : ((a : Int) == 0) = false := by simp; omega
  have h1 : 1 ≤ a := by omega
  obtain ⟨s, hs, hs32, hroot, hL1, hL2⟩ := root_start h1 ha
  obtain ⟨L, hL⟩ : ∃ L, L = Lib.bitLen a := ⟨_, rfl⟩
  rw [← hL] at hs hL1 hL2
  have hp : (2 : Nat) ^ s ≤ 2 ^ 32 := Nat.pow_le_pow_right (by omega) hs32
  have hp1 : 1 ≤ (2 : Nat) ^ s := Nat.one_le_two_pow
  have hst : ((L : Int) + 1) / 2 = (s : Int) := by omega
  have hpw : (2 : Int) ^ s = ((2 ^ s : Nat) : Int) := by simp
  obtain ⟨p, hpp⟩ : ∃ p, p = 2 ^ s := ⟨_, rfl⟩
  rw [← hpp] at hpw hp1 hp hroot
  have HL := Lib.hid hL
  have hc := Tryz.bits_Len64 (a : Int) w (by omega) (by omega)
  rw [show ((a : Int).toNat) = a by omega, ← hL] at hc
  have HC := Lib.hid hc
  have HR := Lib.hid hroot
  clear hc hL h0 hpp hs hroot
  go_enter Tryz.func57, Tryz.ntmps57
  go_wp2_with fail
  refine HC.out.mono ?_
  rintro e w' ⟨rfl, rfl⟩
  go_wp2
  go_loop [3, 4] (fun r _ => ∃ p : Nat, 1 ≤ p ∧ p ≤ 4294967296 ∧ Hid (isq a ≤ p) ∧ r = .int .i64 p) (fun r _ => (intOf r).toNat)
  case atStart => exact ⟨p, hp1, by omega, HR, rfl⟩
  case round =>
    clear HR hpw hp hp1 hst HL HC hL1 hL2 hs32
    obtain ⟨p, hp1, hp, HR, rfl⟩ := hrel
    have hge := Lib.hid (newton_ge (a := a) hp1)
    have hend := Lib.hid (newton_end (a := a) hp1)
    have hy := newton_quot (a := a) HR.out
    obtain ⟨y, ey⟩ : ∃ y, y = a / p := ⟨_, rfl⟩
    have hdiv : (a : Int) / (p : Int) = (y : Int) := by rw [ey]; simp
    rw [← ey] at hge hend hy
    obtain ⟨q, eq⟩ : ∃ q, q = (p + y) / 2 := ⟨_, rfl⟩
    have hdiv2 : ((p : Int) + (y : Int)) / 2 = (q : Int) := by omega
    have hq : q ≤ p + 1 := by omega
    rw [← eq] at hge hend
    clear ey eq
    by_cases hle : p ≤ q
    · have HV := Lib.hid (hend.out hle HR.out)
      go_wp2
      go_ret
      exact ⟨by rw [HV.out]; rfl, rfl⟩
    · have hlt : q < p := by omega
      have hq1 : 1 ≤ q := by
        have := hge.out
        have h2 := (isq_spec a).2
        rcases Nat.lt_or_ge 0 (isq a) with h | h
        · omega
        · have : isq a = 0 := by omega
          rw [this] at h2; omega
      go_wp2
      refine ⟨⟨q, hq1, by omega, hge, by rw [hdiv2]⟩, by rw [hdiv2]; simp [intOf] <;> omega⟩
end Go.Proofs.YtaaldapmkhamlaaGreat

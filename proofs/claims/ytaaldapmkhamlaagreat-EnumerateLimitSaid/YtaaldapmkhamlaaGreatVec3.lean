/-
  Numbers of two words: the contracts of add and minus of the package vector.
-/
import Derived.Test.YtaaldapmkhamlaaGreatVec2
import Derived.Test.YtaaldapmkhamlaaGreatShelf
namespace Go.Proofs.YtaaldapmkhamlaaGreat
open Go.RowKit
theorem add64 (x y c : Int) (hx : 0 ≤ x) (hy : 0 ≤ y) (hc0 : 0 ≤ c) (hc : c ≤ 1) (w : World) : (callFunc 130 #[.int .u64 x, .int .u64 y, .int .u64 c]).run Tryz.prog w =
    .ok (.value (.tuple #[.int .u64 ((x + y + c) % 18446744073709551616), .int .u64 ((x + y + c) / 18446744073709551616)])) w := by
  obtain ⟨x, rfl⟩ := Int.eq_ofNat_of_zero_le hx
  obtain ⟨y, rfl⟩ := Int.eq_ofNat_of_zero_le hy
  obtain ⟨c, rfl⟩ := Int.eq_ofNat_of_zero_le hc0
  refine (Any7.bits_Add64 Tryz.lays7n25 x y c (by omega) w).trans ?_
  congr 5 <;> omega
theorem add64_0 (x y : Int) (hx : 0 ≤ x) (hy : 0 ≤ y) (w : World) : (callFunc 130 #[.int .u64 x, .int .u64 y, .int .u64 0]).run Tryz.prog w =
    .ok (.value (.tuple #[.int .u64 ((x + y) % 18446744073709551616), .int .u64 ((x + y) / 18446744073709551616)])) w := by
  simpa using add64 x y 0 hx hy (Int.le_refl 0) (by decide) w
/-- A borrow. -/
def bor (x y : Int) : Int := if x < y then 1 else 0
theorem sub64 (x y b : Int) (hx : 0 ≤ x) (hy : 0 ≤ y) (hy' : y < 18446744073709551616) (hb0 : 0 ≤ b) (hb : b ≤ 1) (w : World) : (callFunc 131 #[.int .u64 x, .int .u64 y, .int .u64 b]).run Tryz.prog w =
    .ok (.value (.tuple #[.int .u64 ((x - y - b) % 18446744073709551616), .int .u64 (bor x (y + b))])) w := by
  obtain ⟨x, rfl⟩ := Int.eq_ofNat_of_zero_le hx
  obtain ⟨y, rfl⟩ := Int.eq_ofNat_of_zero_le hy
  obtain ⟨b, rfl⟩ := Int.eq_ofNat_of_zero_le hb0
  have e1 : (((x + 18446744073709551616 - y - b) % 18446744073709551616 : Nat) : Int) = ((x : Int) - y - b) % 18446744073709551616 := by omega
  have e2 : ((if x < y + b then 1 else 0 : Nat) : Int) = bor x (y + b) := by unfold bor; split <;> split <;> omega
  rw [← e1, ← e2]
  exact Any7.bits_Sub64 Tryz.lays7n26 x y b (by omega) w
theorem sub64_0 (x y : Int) (hx : 0 ≤ x) (hy : 0 ≤ y) (hy' : y < 18446744073709551616) (w : World) : (callFunc 131 #[.int .u64 x, .int .u64 y, .int .u64 0]).run Tryz.prog w =
    .ok (.value (.tuple #[.int .u64 ((x - y) % 18446744073709551616), .int .u64 (bor x y)])) w := by
  simpa using sub64 x y 0 hx hy hy' (Int.le_refl 0) (by decide) w
/-- The two words of a number. -/
def hiW (v : Int) : Int := v / 18446744073709551616
def loW (v : Int) : Int := v % 18446744073709551616
def wideV (v : Int) : Value := .agg #[.int .u64 (hiW v), .int .u64 (loW v)]
set_option maxHeartbeats 1000000 in
theorem wide_add_any {w : World} (v : Int) (x y : Nat) (h0 : 0 ≤ v) (hx : x < 18446744073709551616) (hy : y < 18446744073709551616) (hb : v + (x * y : Nat) < 340282366920938463463374607431768211456) :
    Calls Tryz.prog 91 #[wideV v, .int .u64 x, .int .u64 y] w (RetVal w (wideV (v + (x * y : Nat)))) := by
  obtain ⟨p, hp⟩ : ∃ p, p = x * y := ⟨_, rfl⟩
  have hm := Tryz.bits_Mul64 x y hx hy
  rw [← hp] at hm hb ⊢
  have HM := Lib.hid hm
  clear hm hp
  unfold wideV
  have a0 : 0 ≤ hiW v := by unfold hiW; omega
  have a1 : 0 ≤ loW v := by unfold loW; omega
  have a2 : loW v < 18446744073709551616 := by unfold loW; omega
  have a3 : hiW v < 18446744073709551616 := by unfold hiW; omega
  obtain ⟨q, hq⟩ : ∃ q : Int, q = ((p / 18446744073709551616 : Nat) : Int) := ⟨_, rfl⟩
  obtain ⟨r, hr⟩ : ∃ r : Int, r = ((p % 18446744073709551616 : Nat) : Int) := ⟨_, rfl⟩
  rw [← hq, ← hr] at HM
  have hq0 : 0 ≤ q := by omega
  have hr0 : 0 ≤ r := by omega
  have HV1 : Hid ((hiW v + q + (loW v + r) / 18446744073709551616) % 18446744073709551616 = hiW (v + p)) := Lib.hid (by unfold hiW loW; omega)
  have HV2 : Hid ((loW v + r) % 18446744073709551616 = loW (v + p)) := Lib.hid (by unfold loW; omega)
  have k0 : 0 ≤ (loW v + r) / 18446744073709551616 := by omega
  have k1 : (loW v + r) / 18446744073709551616 ≤ 1 := by omega
  generalize hiW v = ah at *
  generalize loW v = al at *
  clear hq hr
  go_enter Tryz.func91, Tryz.ntmps91
  go_wp2_with (first | (go_at_call 102; refine (HM.out _).mono ?_; rintro e w' ⟨rfl, rfl⟩) | simp only [add64_0 al r a1 hr0] | simp only [add64 ah q _ a0 hq0 k0 k1])
  rw [← HV1.out, ← HV2.out]
  exact bodyPost_ret (v := .agg #[.int .u64 ((ah + q + (al + r) / 18446744073709551616) % 18446744073709551616), .int .u64 ((al + r) % 18446744073709551616)]) (by simp [results, Tryz.results91, go_sem]) rfl ⟨rfl, Step.of _ _⟩
/-- A number that is not too great. -/
def normB (z : Int) : Bool := decide (0 ≤ z ∧ z ≤ 4611686018427387904)
def RetMinus (w : World) (z : Int) (e : Ending) (w' : World) : Prop := e = .returned (.tuple #[.int .i64 (if normB z then z else 0), .bool (normB z)]) ∧ Step w w'
theorem bor_bounds (x y : Int) : 0 ≤ bor x y ∧ bor x y ≤ 1 := by unfold bor; split <;> omega
set_option maxHeartbeats 2000000 in
theorem wide_minus_any {w : World} (a b : Int) (ha0 : 0 ≤ a) (ha1 : a < 340282366920938463463374607431768211456) (hb0 : 0 ≤ b) (hb1 : b < 340282366920938463463374607431768211456) :
    Calls Tryz.prog 92 #[wideV a, wideV b] w (RetMinus w (a - b)) := by
  unfold wideV
  have a1 : 0 ≤ hiW a ∧ hiW a < 18446744073709551616 ∧ 0 ≤ loW a ∧ loW a < 18446744073709551616 ∧ a = hiW a * 18446744073709551616 + loW a := by unfold hiW loW; omega
  have b1 : 0 ≤ hiW b ∧ hiW b < 18446744073709551616 ∧ 0 ≤ loW b ∧ loW b < 18446744073709551616 ∧ b = hiW b * 18446744073709551616 + loW b := by unfold hiW loW; omega
  generalize hiW a = ah at *
  generalize loW a = al at *
  generalize hiW b = bh at *
  generalize loW b = bl at *
  obtain ⟨c1, c2, c3, c4, c5⟩ := a1
  obtain ⟨d1, d2, d3, d4, d5⟩ := b1
  obtain ⟨g, hg⟩ : ∃ g, g = bor al bl := ⟨_, rfl⟩
  obtain ⟨f, hf⟩ : ∃ f, f = bor ah (bh + g) := ⟨_, rfl⟩
  obtain ⟨lo, hlo⟩ : ∃ lo, lo = (al - bl) % 18446744073709551616 := ⟨_, rfl⟩
  obtain ⟨hi, hhi⟩ : ∃ hi, hi = (ah - bh - g) % 18446744073709551616 := ⟨_, rfl⟩
  have hg1 := bor_bounds al bl
  have hf1 := bor_bounds ah (bh + g)
  rw [← hg] at hg1
  rw [← hf] at hf1
  have s1 := sub64_0 al bl c3 d3 d4
  have s2 := sub64 ah bh g c1 d1 d2 hg1.1 hg1.2
  rw [← hg, ← hlo] at s1
  rw [← hf, ← hhi] at s2
  have S1 := Lib.hid s1
  have S2 := Lib.hid s2
  have hl0 : 0 ≤ lo ∧ lo < 18446744073709551616 := by omega
  have hh0 : 0 ≤ hi ∧ hi < 18446744073709551616 := by omega
  -- the number, by its parts
  have key : normB (a - b) = (decide (f = 0) && (decide (hi = 0) && decide (lo ≤ 4611686018427387904))) ∧ (f = 0 → hi = 0 → a - b = lo) := by
    have hg2 : (al < bl ∧ g = 1) ∨ (bl ≤ al ∧ g = 0) := by rw [hg]; unfold bor; split <;> omega
    have hf2 : (ah < bh + g ∧ f = 1) ∨ (bh + g ≤ ah ∧ f = 0) := by rw [hf]; unfold bor; split <;> omega
    constructor
    · unfold normB
      rw [Bool.eq_iff_iff]
      simp only [decide_eq_true_eq, Bool.and_eq_true]
      constructor
      · rintro ⟨h1, h2⟩
        refine ⟨?_, ?_, ?_⟩ <;> omega
      · rintro ⟨h1, h2, h3⟩
        omega
    · intro h1 h2; omega
  obtain ⟨key1, key2⟩ := key
  have K1 := Lib.hid key1
  have K2 := Lib.hid key2
  clear hg hf hlo hhi key1 key2 s1 s2 c5 d5
  by_cases hf0 : f = 0
  · have bf : (f != 0) = false := by simp [hf0]
    by_cases hh : hi = 0
    · have bh' : (hi != 0) = false := by simp [hh]
      by_cases hl : lo ≤ 4611686018427387904
      · have HN : Hid (normB (a - b) = true) := Lib.hid (by rw [K1.out]; simp [hf0, hh, hl])
        have HE := Lib.hid (K2.out hf0 hh)
        have bl' : decide (4611686018427387904 < lo) = false := by simp; omega
        clear hf0 hh
        go_enter Tryz.func92, Tryz.ntmps92
        go_wp2_with (first | simp only [S1.out] | simp only [S2.out])
        go_ret2
        exact ⟨by rw [HN.out, HE.out]; rfl, Step.of _ _⟩
      · have HN : Hid (normB (a - b) = false) := Lib.hid (by rw [K1.out]; simp [hl])
        have bl' : decide (4611686018427387904 < lo) = true := by simp; omega
        clear hf0 hh
        go_enter Tryz.func92, Tryz.ntmps92
        go_wp2_with (first | simp only [S1.out] | simp only [S2.out])
        go_ret2
        exact ⟨by rw [HN.out]; rfl, Step.of _ _⟩
    · have bh' : (hi != 0) = true := by simp [hh]
      have HN : Hid (normB (a - b) = false) := Lib.hid (by rw [K1.out]; simp [hh])
      clear hf0 hh
      go_enter Tryz.func92, Tryz.ntmps92
      go_wp2_with (first | simp only [S1.out] | simp only [S2.out])
      go_ret2
      exact ⟨by rw [HN.out]; rfl, Step.of _ _⟩
  · have bf : (f != 0) = true := by simp [hf0]
    have HN : Hid (normB (a - b) = false) := Lib.hid (by rw [K1.out]; simp [hf0])
    clear hf0
    go_enter Tryz.func92, Tryz.ntmps92
    go_wp2_with (first | simp only [S1.out] | simp only [S2.out])
    go_ret2
    exact ⟨by rw [HN.out]; rfl, Step.of _ _⟩
end Go.Proofs.YtaaldapmkhamlaaGreat

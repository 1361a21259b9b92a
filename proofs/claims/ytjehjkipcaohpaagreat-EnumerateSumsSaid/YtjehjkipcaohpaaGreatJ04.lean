/-
  Contracts of functions of the program, joined: Lll. No statement of the seat is proved here.
-/
import Derived.Test.YtjehjkipcaohpaaGreatJ03
set_option linter.unusedVariables false
set_option linter.unusedSimpArgs false
set_option linter.constructorNameAsVariable false
namespace Go.Proofs.YtjehjkipcaohpaaGreat
open Go.RowKit
/-- An entry of a matrix of int64 in memory. -/
theorem Mat64.ent_ {w : World} {A : Option Addr} {m : List (List Int)} (h : Mat64 w A m) {n i j : Nat} (hi : i < m.length) (hl : (m.getD i []).length = n) (hj : j < n) :
    ∃ b o b1 o1 c, A = some ⟨b, o, none⟩ ∧ w.cell? ⟨b, o + i, none⟩ = some (.slice (some ⟨b1, o1, none⟩) n c) ∧ w.cell? ⟨b1, o1 + j, none⟩ = some (.int .i64 (ent m i j)) ∧ n ≤ c ∧ c ≤ 9223372036854775807 ∧ b < w.heap.size ∧ b1 < w.heap.size := by
  have hr : m[i]? = some m[i] := by simp
  have hl' : m[i].length = n := by simpa [List.getD, hi] using hl
  obtain ⟨b, o, B0, c, hA, hc, hI, h1, h2, hb⟩ := h.at_ hr
  obtain ⟨b1, o1, x, rfl, hx, c1, hb1⟩ := hI.at_ (i := j) (by omega)
  have he : ent m i j = x := ent_of hr hx
  rw [he]
  rw [hl'] at hc h1
  exact ⟨b, o, b1, o1, c, hA, hc, c1, h1, h2, hb, hb1⟩
theorem Mat64.row_ {w : World} {A : Option Addr} {m : List (List Int)} (h : Mat64 w A m) {i : Nat} (hi : i < m.length) :
    ∃ b o B c, A = some ⟨b, o, none⟩ ∧ w.cell? ⟨b, o + i, none⟩ = some (.slice B (m.getD i []).length c) ∧ (m.getD i []).length ≤ c ∧ c ≤ 9223372036854775807 ∧ b < w.heap.size := by
  have hr : m[i]? = some m[i] := by simp
  obtain ⟨b, o, B0, c, hA, hc, hI, h1, h2, hb⟩ := h.at_ hr
  have e : m.getD i [] = m[i] := by simp [List.getD, hi]
  rw [e]
  exact ⟨b, o, B0, c, hA, hc, h1, h2, hb⟩
/-- Square, symmetric, with small entries. -/
def isSmallB (h : List (List Int)) : Bool := decide (1 ≤ h.length ∧ h.length ≤ 8 ∧ (∀ i, i < h.length → (h.getD i []).length = h.length) ∧ ∀ i, i < h.length → ∀ j, j < h.length → ent h i j = ent h j i ∧ -262144 < ent h i j ∧ ent h i j < 262144)
theorem isSmallB_false {h : List (List Int)} (hh : ¬ (1 ≤ h.length ∧ h.length ≤ 8 ∧ (∀ i, i < h.length → (h.getD i []).length = h.length) ∧ ∀ i, i < h.length → ∀ j, j < h.length → ent h i j = ent h j i ∧ -262144 < ent h i j ∧ ent h i j < 262144)) : isSmallB h = false := decide_eq_false hh
theorem isSmallB_true {h : List (List Int)} (hh : 1 ≤ h.length ∧ h.length ≤ 8 ∧ (∀ i, i < h.length → (h.getD i []).length = h.length) ∧ ∀ i, i < h.length → ∀ j, j < h.length → ent h i j = ent h j i ∧ -262144 < ent h i j ∧ ent h i j < 262144) : isSmallB h = true := decide_eq_true hh

set_option maxRecDepth 10000 in
set_option maxHeartbeats 1000000 in
theorem isSmall_any {w0 w : World} {A : Option Addr} {c : Nat} {m : List (List Int)} (h : Mat64 w0 A m) (hlen : m.length ≤ 1099511627776) [hx : Ext w0 w] :
    Calls Tryz.prog 111 #[.slice A m.length c] w (RetSame w (.bool (isSmallB m))) := by
  have h0 := h.ext hx
  by_cases hz : m.length < 1
  · have HF := Lib.hid (isSmallB_false (h := m) (by omega))
    have hd1 : decide ((m.length : Int) < 1) = true := by simp; omega
    go_enter Tryz.func111, Tryz.ntmps111
    go_wp2
    go_ret
    exact ⟨by rw [HF.out]; rfl, rfl⟩
  by_cases hg : 8 < m.length
  · have HF := Lib.hid (isSmallB_false (h := m) (by omega))
    have hd1 : decide ((m.length : Int) < 1) = false := by simp; omega
    have hd2 : decide ((8 : Int) < (m.length : Int)) = true := by simp; omega
    go_enter Tryz.func111, Tryz.ntmps111
    go_wp2
    go_ret
    exact ⟨by rw [HF.out]; rfl, rfl⟩
  have hd1 : decide ((m.length : Int) < 1) = false := by simp; omega
  have hd2 : decide ((8 : Int) < (m.length : Int)) = false := by simp; omega
  have h1 : 1 ≤ m.length := by omega
  have h8 : m.length ≤ 8 := by omega
  clear hz hg
  go_enter Tryz.func111, Tryz.ntmps111
  go_wp2
  go_loop [5, 20] (fun _ i => ∃ k : Nat, k ≤ m.length ∧ i = .int .i64 k ∧ Hid (∀ i, i < k → (m.getD i []).length = m.length)) (fun _ i => m.length - (intOf i).toNat)
  case atStart => exact ⟨0, by omega, rfl, Lib.hid (fun i hi => absurd hi (by omega))⟩
  case round =>
    obtain ⟨k, hk, rfl, hR⟩ := hrel
    by_cases hlt : k < m.length
    · obtain ⟨b, o, B, c1, rfl, e1, f1, f2, f3⟩ := h0.row_ hlt
      obtain ⟨ln, hln⟩ : ∃ ln, ln = (m.getD k []).length := ⟨_, rfl⟩
      rw [← hln] at e1 f1
      have HLN := Lib.hid hln
      clear hln
      by_cases hne : ln = m.length
      · subst hne
        go_wp2
        refine ⟨⟨k + 1, by omega, by go_num, Lib.hid fun i hi => ?_⟩, by simp [intOf] <;> omega⟩
        rcases Nat.lt_or_ge i k with h | h
        · exact hR.out i h
        · obtain rfl : i = k := by omega
          exact HLN.out.symm
      · have hb : ((ln : Int) != (m.length : Int)) = true := by simp; omega
        have HF := Lib.hid (isSmallB_false (h := m) (fun hh => hne (by rw [HLN.out]; exact hh.2.2.1 k hlt)))
        clear hne
        go_wp2
        go_ret
        exact ⟨by rw [HF.out]; rfl, rfl⟩
    · obtain rfl : k = m.length := by omega
      clear hlt
      go_wp2
      go_loop [6, 7, 8, 9, 31] (fun _ _ _ _ i => ∃ k : Nat, k ≤ m.length ∧ i = .int .i64 k ∧ Hid (∀ i, i < k → ∀ j, j < m.length → ent m i j = ent m j i ∧ -262144 < ent m i j ∧ ent m i j < 262144)) (fun _ _ _ _ i => m.length - (intOf i).toNat)
      case atStart => exact ⟨0, by omega, rfl, Lib.hid (fun i hi => absurd hi (by omega))⟩
      case round =>
        obtain ⟨k, hk, rfl, hE⟩ := hrel
        by_cases hlt : k < m.length
        · obtain ⟨b, o, B, c1, rfl, e1, f1, f2, f3⟩ := h0.row_ hlt
          rw [hR.out k hlt] at e1 f1
          go_wp2
          go_loop [8, 9, 38] (fun _ _ i => ∃ q : Nat, q ≤ m.length ∧ i = .int .i64 q ∧ Hid (∀ j, j < q → ent m k j = ent m j k ∧ -262144 < ent m k j ∧ ent m k j < 262144)) (fun _ _ i => m.length - (intOf i).toNat)
          case atStart => exact ⟨0, by omega, rfl, Lib.hid (fun i hi => absurd hi (by omega))⟩
          case round =>
            obtain ⟨q, hq, rfl, hQ⟩ := hrel
            by_cases hqt : q < m.length
            · obtain ⟨b', o', b1, o1, c2, hA, g1, g2, g3, g4, g5, g6⟩ := h0.ent_ (i := k) (j := q) hlt (hR.out k hlt) hqt
              injection hA with hA
              injection hA with x1 x2
              subst x1 x2
              rw [e1] at g1
              injection g1 with g1
              injection g1 with x1 x2 x3
              subst x1 x3
              obtain ⟨b', o', b2, o2, c3, hA, p1, p2, p3, p4, p5, p6⟩ := h0.ent_ (i := q) (j := k) hqt (hR.out q hqt) hlt
              injection hA with hA
              injection hA with x1 x2
              subst x1 x2
              obtain ⟨x, ex⟩ : ∃ x, x = ent m k q := ⟨_, rfl⟩
              obtain ⟨y, ey⟩ : ∃ y, y = ent m q k := ⟨_, rfl⟩
              rw [← ex] at g2
              rw [← ey] at p2
              have EX := Lib.hid ex
              have EY := Lib.hid ey
              clear ex ey
              by_cases hxy : x = y
              · subst hxy
                by_cases hlo : x ≤ -262144
                · have HF := Lib.hid (isSmallB_false (h := m) (fun hh => by have := (hh.2.2.2 k hlt q hqt).2.1; rw [← EX.out] at this; omega))
                  have hlob : decide (x ≤ -262144) = true := by simpa using hlo
                  go_wp2
                  go_ret
                  exact ⟨by rw [HF.out]; rfl, rfl⟩
                · have hlob : decide (x ≤ -262144) = false := by simp; omega
                  by_cases hhi : 262144 ≤ x
                  · have HF := Lib.hid (isSmallB_false (h := m) (fun hh => by have := (hh.2.2.2 k hlt q hqt).2.2; rw [← EX.out] at this; omega))
                    have hhib : decide (262144 ≤ x) = true := by simpa using hhi
                    clear hlo
                    go_wp2
                    go_ret
                    exact ⟨by rw [HF.out]; rfl, rfl⟩
                  · have hhib : decide (262144 ≤ x) = false := by simp; omega
                    have hx1 : -262144 < x := by omega
                    have hx2 : x < 262144 := by omega
                    clear hlo hhi
                    go_wp2
                    refine ⟨⟨q + 1, by omega, by go_num, Lib.hid fun j hj => ?_⟩, by simp [intOf] <;> omega⟩
                    rcases Nat.lt_or_ge j q with h | h
                    · exact hQ.out j h
                    · obtain rfl : j = q := by omega
                      rw [← EX.out, ← EY.out]
                      exact ⟨rfl, hx1, hx2⟩
              · have hb : (x != y) = true := by simp [hxy]
                have HF := Lib.hid (isSmallB_false (h := m) (fun hh => by have := (hh.2.2.2 k hlt q hqt).1; rw [← EX.out, ← EY.out] at this; exact hxy this))
                clear hxy
                go_wp2
                go_ret
                exact ⟨by rw [HF.out]; rfl, rfl⟩
            · obtain rfl : q = m.length := by omega
              clear hqt
              go_wp2
              refine ⟨⟨k + 1, by omega, by go_num, Lib.hid fun i hi => ?_⟩, by simp [intOf] <;> omega⟩
              rcases Nat.lt_or_ge i k with h | h
              · exact hE.out i h
              · obtain rfl : i = k := by omega
                exact hQ.out
        · obtain rfl : k = m.length := by omega
          have HF := Lib.hid (isSmallB_true (h := m) ⟨h1, h8, hR.out, hE.out⟩)
          clear hlt
          go_wp2
          go_ret
          exact ⟨by rw [HF.out]; rfl, rfl⟩

theorem AllLen.at_ {m : List (List Int)} {n : Nat} (hn : AllLen m n) {i : Nat} (hi : i < m.length) : (m.getD i []).length = n := by
  have : m.getD i [] = m[i] := by simp [List.getD, hi]
  rw [this]; exact hn _ (List.getElem_mem hi)
/-- The condition on the first column of a stage. -/
def shortB (m : List (List Int)) : Bool := decide (0 < ent m 0 0 ∧ ent m 0 0 < 65536 ∧ ∀ i, i < m.length → 1 ≤ i → 2 * ent m i 0 ≤ ent m 0 0 ∧ -2 * ent m i 0 ≤ ent m 0 0)
theorem shortB_false {h : List (List Int)} (hh : ¬ (0 < ent h 0 0 ∧ ent h 0 0 < 65536 ∧ ∀ i, i < h.length → 1 ≤ i → 2 * ent h i 0 ≤ ent h 0 0 ∧ -2 * ent h i 0 ≤ ent h 0 0)) : shortB h = false := decide_eq_false hh
theorem shortB_true {h : List (List Int)} (hh : 0 < ent h 0 0 ∧ ent h 0 0 < 65536 ∧ ∀ i, i < h.length → 1 ≤ i → 2 * ent h i 0 ≤ ent h 0 0 ∧ -2 * ent h i 0 ≤ ent h 0 0) : shortB h = true := decide_eq_true hh
/-- Entries of a square matrix that are small in absolute value. -/
def Below40 (m : List (List Int)) : Prop := ∀ i, i < m.length → ∀ j, j < m.length → -1099511627776 ≤ ent m i j ∧ ent m i j ≤ 1099511627776

set_option maxRecDepth 10000 in
set_option maxHeartbeats 1000000 in
theorem isShortened_any {w0 w : World} {A : Option Addr} {c : Nat} {m : List (List Int)} (h : Mat64 w0 A m) (h1 : 2 ≤ m.length) (h8 : m.length ≤ 8) (hc : m.length ≤ c) (hc2 : c ≤ 9223372036854775807) (hn : AllLen m m.length) (hB : Below40 m) [hx : Ext w0 w] :
    Calls Tryz.prog 112 #[.slice A m.length c] w (RetSame w (.bool (shortB m))) := by
  have h0 := h.ext hx
  have hcne : c ≠ 1 := by omega
  obtain ⟨b, o, b1, o1, c1, rfl, e1, e2, f1, f2, f3, f4⟩ := h0.ent_ (i := 0) (j := 0) (n := m.length) (by omega) (hn.at_ (by omega)) (by omega)
  have hb0 := hB 0 (by omega) 0 (by omega)
  obtain ⟨d, hd⟩ : ∃ d, d = ent m 0 0 := ⟨_, rfl⟩
  rw [← hd] at e2 hb0
  simp only [Nat.add_zero] at e1 e2
  have HD := Lib.hid hd
  clear hd
  by_cases hz : d ≤ 0
  · have HF := Lib.hid (shortB_false (h := m) (fun hh => by have := hh.1; rw [← HD.out] at this; omega))
    have hd1 : decide (d ≤ 0) = true := by simpa using hz
    clear hz
    go_enter Tryz.func112, Tryz.ntmps112
    go_wp2
    go_ret
    exact ⟨by rw [HF.out]; rfl, rfl⟩
  have hd1 : decide (d ≤ 0) = false := by simp; omega
  by_cases hg : 65536 ≤ d
  · have HF := Lib.hid (shortB_false (h := m) (fun hh => by have := hh.2.1; rw [← HD.out] at this; omega))
    have hd2 : decide (65536 ≤ d) = true := by simpa using hg
    clear hg hz
    go_enter Tryz.func112, Tryz.ntmps112
    go_wp2
    go_ret
    exact ⟨by rw [HF.out]; rfl, rfl⟩
  have hd2 : decide (65536 ≤ d) = false := by simp; omega
  have hd3 : 0 < d := by omega
  have hd4 : d < 65536 := by omega
  clear hz hg
  go_enter Tryz.func112, Tryz.ntmps112
  go_wp2
  go_loop [5, 20] (fun _ i => ∃ k : Nat, k + 1 ≤ m.length ∧ i = .int .i64 k ∧ Hid (∀ i, 1 ≤ i → i < k + 1 → 2 * ent m i 0 ≤ ent m 0 0 ∧ -2 * ent m i 0 ≤ ent m 0 0)) (fun _ i => m.length - (intOf i).toNat)
  case atStart => exact ⟨0, by omega, rfl, Lib.hid (fun i hi hi2 => absurd hi2 (by omega))⟩
  case round =>
    obtain ⟨k, hk, rfl, hR⟩ := hrel
    by_cases hlt : k + 1 < m.length
    · obtain ⟨b', o', b2, o2, c2, hA, g1, g2, g3, g4, g5, g6⟩ := h0.ent_ (i := k + 1) (j := 0) (n := m.length) hlt (hn.at_ hlt) (by omega)
      injection hA with hA
      injection hA with x1 x2
      subst x1 x2
      have hbk := hB (k + 1) hlt 0 (by omega)
      obtain ⟨x, ex⟩ : ∃ x, x = ent m (k + 1) 0 := ⟨_, rfl⟩
      rw [← ex] at g2 hbk
      rw [show o + (k + 1) = o + 1 + k by omega] at g1
      simp only [Nat.add_zero] at g2
      have EX := Lib.hid ex
      clear ex
      by_cases hlo : d < 2 * x
      · have HF := Lib.hid (shortB_false (h := m) (fun hh => by have := (hh.2.2 (k + 1) hlt (by omega)).1; rw [← HD.out, ← EX.out] at this; omega))
        have hlob : decide (d < 2 * x) = true := by simpa using hlo
        clear hlo
        go_wp2
        go_ret
        exact ⟨by rw [HF.out]; rfl, rfl⟩
      · have hlob : decide (d < 2 * x) = false := by simp; omega
        by_cases hhi : d < -2 * x
        · have HF := Lib.hid (shortB_false (h := m) (fun hh => by have := (hh.2.2 (k + 1) hlt (by omega)).2; rw [← HD.out, ← EX.out] at this; omega))
          have hhib : decide (d < -2 * x) = true := by simpa using hhi
          clear hlo hhi
          go_wp2
          go_ret
          exact ⟨by rw [HF.out]; rfl, rfl⟩
        · have hhib : decide (d < -2 * x) = false := by simp; omega
          have HX := Lib.hid hlo
          have HY := Lib.hid hhi
          clear hlo hhi
          go_wp2
          refine ⟨⟨k + 1, by omega, by go_num, Lib.hid fun i hi1 hi2 => ?_⟩, by simp [intOf] <;> omega⟩
          rcases Nat.lt_or_ge i (k + 1) with h | h
          · exact hR.out i hi1 h
          · obtain rfl : i = k + 1 := by omega
            have := HX.out
            have := HY.out
            rw [← HD.out, ← EX.out]
            omega
    · obtain rfl : k = m.length - 1 := by omega
      have HF := Lib.hid (shortB_true (h := m) ⟨by rw [← HD.out]; exact hd3, by rw [← HD.out]; exact hd4, fun i hi1 hi2 => hR.out i hi2 (by omega)⟩)
      clear hlt
      go_wp2
      go_ret
      exact ⟨by rw [HF.out]; rfl, rfl⟩

/-- The next stage, as IsReduced computes it. -/
def nextT (last : Int) (m : List (List Int)) : List (List Int) := tab (fun i j => Int.tdiv (ent m 0 0 * ent m (i + 1) (j + 1) - ent m (i + 1) 0 * ent m 0 (j + 1)) last) (m.length - 1) (m.length - 1)
/-- The conditions from one stage on. -/
def redGo : Nat → Int → List (List Int) → Bool
  | 0, _, m => decide (0 < ent m 0 0 ∧ ent m 0 0 ≤ 10000)
  | k + 1, last, m => shortB m && (!decide (4 * (last * ent (nextT last m) 0 0 + ent m 1 0 * ent m 1 0) < 3 * ent m 0 0 * ent m 0 0) && redGo k (ent m 0 0) (nextT last m))
/-- What IsReduced returns. -/
def isRedB (h : List (List Int)) : Bool := isSmallB h && redGo (h.length - 1) 1 h

theorem ent_tab (F : Nat → Nat → Int) (r c i j : Nat) (hi : i < r) (hj : j < c) : ent (tab F r c) i j = F i j := by
  simp [ent, tab, hi, hj]

/-- What holds of a stage: no product in the next one exceeds an int64. -/
structure SInv (last : Int) (m : List (List Int)) : Prop where
  len1 : 1 ≤ m.length
  len8 : m.length ≤ 8
  all : AllLen m m.length
  sym : ∀ i, i < m.length → ∀ j, j < m.length → ent m i j = ent m j i
  bound : ∀ i, i < m.length → ∀ j, j < m.length → -((393216 - 16384 * (m.length : Int)) * last) ≤ ent m i j ∧ ent m i j ≤ (393216 - 16384 * (m.length : Int)) * last
  lp : 0 < last
  ll : last < 65536

theorem SInv.start {h : List (List Int)} (hh : isSmallB h = true) : SInv 1 h := by
  have hs := of_decide_eq_true hh
  refine ⟨hs.1, hs.2.1, fun r hr => ?_, fun i hi j hj => (hs.2.2.2 i hi j hj).1, fun i hi j hj => ?_, by omega, by omega⟩
  · obtain ⟨i, hi, rfl⟩ := List.getElem_of_mem hr
    have := hs.2.2.1 i hi
    simpa [List.getD, hi] using this
  · have h1 := (hs.2.2.2 i hi j hj).2
    have h2 := hs.2.1
    omega
theorem SInv.b40 {last : Int} {m : List (List Int)} (h : SInv last m) : Below40 m := fun i hi j hj => by
  have hb := h.bound i hi j hj
  have h1 : (393216 - 16384 * (m.length : Int)) * last ≤ 393216 * 65536 := Int.mul_le_mul (by omega) (by have := h.ll; omega) (by have := h.lp; omega) (by omega)
  omega
theorem abs_tdiv_le {X l K : Int} (hl : 0 < l) (h1 : -(K * l) ≤ X) (h2 : X ≤ K * l) : -K ≤ X.tdiv l ∧ X.tdiv l ≤ K := by
  rw [tdiv_eq_if]
  split
  · have a := Int.ediv_le_of_le_mul hl h2
    have b := Int.ediv_nonneg (a := X) (b := l) (by omega) (by omega)
    have : 0 ≤ K := by
      rcases (by omega : K < 0 ∨ 0 ≤ K) with h | h
      · have := Int.mul_neg_of_neg_of_pos h hl; omega
      · exact h
    omega
  · have a := Int.ediv_le_of_le_mul hl (show -X ≤ K * l by omega)
    have b := Int.ediv_nonneg (a := -X) (b := l) (by omega) (by omega)
    have : 0 ≤ K := by
      rcases (by omega : K < 0 ∨ 0 ≤ K) with h | h
      · have := Int.mul_neg_of_neg_of_pos h hl; omega
      · exact h
    omega
theorem mul_bound {a b d : Int} (h1 : 2 * a ≤ d) (h2 : -2 * a ≤ d) (h3 : 2 * b ≤ d) (h4 : -2 * b ≤ d) : -(d * d) ≤ 4 * (a * b) ∧ 4 * (a * b) ≤ d * d := by
  have p1 : 0 ≤ (d - 2 * a) * (d + 2 * b) := Int.mul_nonneg (by omega) (by omega)
  have p2 : 0 ≤ (d + 2 * a) * (d - 2 * b) := Int.mul_nonneg (by omega) (by omega)
  have p3 : 0 ≤ (d - 2 * a) * (d - 2 * b) := Int.mul_nonneg (by omega) (by omega)
  have p4 : 0 ≤ (d + 2 * a) * (d + 2 * b) := Int.mul_nonneg (by omega) (by omega)
  simp only [Int.sub_mul, Int.add_mul, Int.mul_sub, Int.mul_add] at p1 p2 p3 p4
  have e1 : 2 * a * (2 * b) = 4 * (a * b) := by rw [Int.mul_assoc, Int.mul_left_comm a 2 b, ← Int.mul_assoc]; rfl
  have e2 : d * (2 * b) = 2 * (d * b) := by rw [Int.mul_left_comm]
  have e3 : 2 * a * d = 2 * (a * d) := by rw [Int.mul_assoc]
  rw [e1, e2, e3] at p1 p2 p3 p4
  omega
theorem nums_plain {d a b x B last : Int} (hd0 : 0 < d) (hd1 : d < 65536) (ha : 2 * a ≤ d ∧ -2 * a ≤ d) (hb : 2 * b ≤ d ∧ -2 * b ≤ d) (hx : -(B * last) ≤ x ∧ x ≤ B * last) (hlp : 0 < last) (hll : last < 65536) (hB0 : 0 ≤ B) (hB2 : B ≤ 376832) :
    -((B + 16384) * d * last) ≤ d * x - a * b ∧ d * x - a * b ≤ (B + 16384) * d * last ∧ -4294967296 ≤ a * b ∧ a * b ≤ 4294967296 ∧ -(4503599627370496) ≤ d * x ∧ d * x ≤ 4503599627370496 := by
  have hm := mul_bound ha.1 ha.2 hb.1 hb.2
  have hdd : d * d ≤ 65536 * d := Int.mul_le_mul_of_nonneg_right (by omega) (by omega)
  have hdl : d ≤ d * last := by
    have := Int.mul_le_mul_of_nonneg_left (a := 1) (b := last) (c := d) (by omega) (by omega)
    omega
  have q1 : d * x ≤ d * (B * last) := Int.mul_le_mul_of_nonneg_left hx.2 (by omega)
  have q2 : d * -(B * last) ≤ d * x := Int.mul_le_mul_of_nonneg_left hx.1 (by omega)
  have e1 : (B + 16384) * d * last = d * (B * last) + 16384 * (d * last) := by
    rw [Int.mul_assoc, Int.add_mul, Int.mul_left_comm d B last]
  have hBl : B * last ≤ 376832 * 65536 := Int.mul_le_mul hB2 (by omega) (by omega) (by omega)
  have q3 : d * (B * last) ≤ 65536 * (376832 * 65536) := Int.mul_le_mul (by omega) hBl (Int.mul_nonneg hB0 (by omega)) (by omega)
  rw [Int.mul_neg] at q2
  rw [e1]
  omega
/-- The numbers of one step. -/
theorem SInv.nums {last : Int} {m : List (List Int)} (h : SInv last m) (hs : shortB m = true) {i j : Nat} (hi : i + 1 < m.length) (hj : j + 1 < m.length) :
    -((409600 - 16384 * (m.length : Int)) * ent m 0 0 * last) ≤ ent m 0 0 * ent m (i + 1) (j + 1) - ent m (i + 1) 0 * ent m 0 (j + 1) ∧ ent m 0 0 * ent m (i + 1) (j + 1) - ent m (i + 1) 0 * ent m 0 (j + 1) ≤ (409600 - 16384 * (m.length : Int)) * ent m 0 0 * last ∧
    -4294967296 ≤ ent m (i + 1) 0 * ent m 0 (j + 1) ∧ ent m (i + 1) 0 * ent m 0 (j + 1) ≤ 4294967296 ∧ -(4503599627370496) ≤ ent m 0 0 * ent m (i + 1) (j + 1) ∧ ent m 0 0 * ent m (i + 1) (j + 1) ≤ 4503599627370496 := by
  have hsh := of_decide_eq_true hs
  obtain ⟨hd0, hd1, hcol⟩ := hsh
  have ha := hcol (i + 1) hi (by omega)
  have hb := hcol (j + 1) hj (by omega)
  rw [← h.sym 0 (by omega) (j + 1) hj] at hb
  rw [show (409600 - 16384 * (m.length : Int)) = (393216 - 16384 * (m.length : Int)) + 16384 by omega]
  have hl8 := h.len8
  have hl1 := h.len1
  exact nums_plain hd0 hd1 ha hb (h.bound (i + 1) hi (j + 1) hj) h.lp h.ll (by omega) (by omega)
theorem SInv.next {last : Int} {m : List (List Int)} (h : SInv last m) (h2 : 2 ≤ m.length) (hs : shortB m = true) : SInv (ent m 0 0) (nextT last m) := by
  have hsh := of_decide_eq_true hs
  have hl : (nextT last m).length = m.length - 1 := tab_length _ _ _
  refine ⟨by omega, by have := h.len8; omega, by rw [hl]; exact tab_allLen _ _ _, fun i hi j hj => ?_, fun i hi j hj => ?_, hsh.1, hsh.2.1⟩
  · rw [hl] at hi hj
    unfold nextT
    rw [ent_tab _ _ _ _ _ hi hj, ent_tab _ _ _ _ _ hj hi, h.sym (i + 1) (by omega) (j + 1) (by omega), h.sym (i + 1) (by omega) 0 (by omega), h.sym 0 (by omega) (j + 1) (by omega), Int.mul_comm (ent m 0 (i + 1))]
  · rw [hl] at hi hj
    have hn := h.nums hs (i := i) (j := j) (by omega) (by omega)
    rw [hl]
    unfold nextT
    rw [ent_tab _ _ _ _ _ hi hj]
    have := abs_tdiv_le h.lp hn.1 hn.2.1
    rw [show (393216 - 16384 * ((m.length - 1 : Nat) : Int)) = 409600 - 16384 * (m.length : Int) by omega]
    exact this

def lenOf : Value → Nat
  | .slice _ n _ => n
  | _ => 0
theorem isRedB_small {h : List (List Int)} (hs : isSmallB h = false) : isRedB h = false := by simp [isRedB, hs]
theorem isRedB_go {h : List (List Int)} (hs : isSmallB h = true) : isRedB h = redGo (h.length - 1) 1 h := by simp [isRedB, hs]

/-- A row of a matrix of int64, as it is read in every later world. -/
theorem Mat64.rowAt {w : World} {A : Option Addr} {m : List (List Int)} (h : Mat64 w A m) {i n : Nat} (hi : i < m.length) (hl : (m.getD i []).length = n) (hn : 0 < n) :
    ∃ b o b1 o1 c, A = some ⟨b, o, none⟩ ∧ n ≤ c ∧ c ≤ 9223372036854775807 ∧ ∀ w', Ext w w' → w'.cell? ⟨b, o + i, none⟩ = some (.slice (some ⟨b1, o1, none⟩) n c) ∧ b < w'.heap.size ∧ b1 < w'.heap.size ∧ ∀ j, j < n → w'.cell? ⟨b1, o1 + j, none⟩ = some (.int .i64 (ent m i j)) := by
  have hr : m[i]? = some m[i] := by simp
  have hl' : m[i].length = n := by simpa [List.getD, hi] using hl
  obtain ⟨b, o, B0, c, hA, hc, hI, h1, h2, hb⟩ := h.at_ hr
  rw [hl'] at hc h1
  obtain ⟨b1, o1, x0, rfl, -, -, hb1⟩ := hI.at_ (i := 0) (by omega)
  refine ⟨b, o, b1, o1, c, hA, h1, h2, fun w' hx => ⟨?_, Nat.lt_of_lt_of_le hb hx.size, Nat.lt_of_lt_of_le hb1 hx.size, fun j hj => ?_⟩⟩
  · rw [hx.below.cell (p := ⟨b, o + i, none⟩) hb]; exact hc
  · obtain ⟨b2, o2, x, hB, hx2, hcell, -⟩ := hI.at_ (i := j) (by omega)
    injection hB with hB
    injection hB with e1 e2
    subst e1 e2
    have he : ent m i j = x := ent_of hr hx2
    rw [he, hx.below.cell (p := ⟨b1, o1 + j, none⟩) hb1]; exact hcell
theorem SInv.at0 {last : Int} {m : List (List Int)} (h : SInv last m) {n i : Nat} (hn : n = m.length) (hi : i < n) : (m.getD i []).length = n := by
  rw [hn]; exact h.all.at_ (by omega)
theorem Heads1.full {w : World} {G : Nat} {F : Nat → Nat → Int} {rows cols : Nat} (hc : cols ≤ 9223372036854775807) (h : Heads1 w G F rows cols rows) : Mat64 w (some ⟨G, 0, none⟩) (tab F rows cols) := by
  obtain ⟨hd, v1, v2, v3, v4⟩ := h
  refine ⟨hd, by rw [v2, tab_length], v1.arr, fun i r hr => ?_⟩
  have hi : i < rows := by
    rcases Nat.lt_or_ge i rows with hi | hi
    · exact hi
    · rw [List.getElem?_eq_none (by rw [tab_length]; exact hi)] at hr; cases hr
  rw [tab_get _ _ _ _ hi] at hr
  injection hr with hr
  subst hr
  obtain ⟨B, b1, b2⟩ := v3 i hi
  exact ⟨B, cols, by simpa using b1, b2, by simp, hc⟩
theorem redGo_short {k : Nat} {last : Int} {m : List (List Int)} (h : shortB m = false) : redGo (k + 1) last m = false := by simp [redGo, h]
theorem redGo_bad {k : Nat} {last : Int} {m : List (List Int)} (h : decide (4 * (last * ent (nextT last m) 0 0 + ent m 1 0 * ent m 1 0) < 3 * ent m 0 0 * ent m 0 0) = true) : redGo (k + 1) last m = false := by simp only [redGo, h, Bool.not_true, Bool.false_and, Bool.and_false]
theorem redGo_on {k : Nat} {last : Int} {m : List (List Int)} (hs : shortB m = true) (h : decide (4 * (last * ent (nextT last m) 0 0 + ent m 1 0 * ent m 1 0) < 3 * ent m 0 0 * ent m 0 0) = false) : redGo (k + 1) last m = redGo k (ent m 0 0) (nextT last m) := by simp only [redGo, hs, h, Bool.not_false, Bool.true_and]

set_option maxRecDepth 10000 in
set_option maxHeartbeats 2000000 in
theorem IsReduced_any {w0 w : World} {A : Option Addr} {c : Nat} {m : List (List Int)} (h : Mat64 w0 A m) (hlen : m.length ≤ 1099511627776) (hc : m.length ≤ c) (hc2 : c ≤ 9223372036854775807) [hx : Ext w0 w] :
    Calls Tryz.prog 66 #[.slice A m.length c] w (RetVal w (.bool (isRedB m))) := by
  have h0 := h.ext hx
  cases hs : isSmallB m
  · have HF := Lib.hid (isRedB_small hs)
    go_enter Tryz.func66, Tryz.ntmps66
    go_wp2_with fail
    refine (isSmall_any h hlen).mono ?_
    rintro e w' ⟨rfl, rfl⟩
    rw [hs]
    go_wp2
    go_ret
    exact ⟨by rw [HF.out]; rfl, Step.of _ _⟩
  have HR := Lib.hid (isRedB_go hs)
  have HI := Lib.hid (SInv.start hs)
  go_enter Tryz.func66, Tryz.ntmps66
  go_wp2_with fail
  refine (isSmall_any h hlen).mono ?_
  rintro e w' ⟨rfl, rfl⟩
  rw [hs]
  clear hs
  go_wp2
  go_loopw [3, 4, 5, 6, 7, 8, 9, 10] (fun s l _ _ _ _ _ _ wr => ∃ A1 c1 m1 last, s = .slice A1 m1.length c1 ∧ l = .int .i64 last ∧ Mat64 wr A1 m1 ∧ m1.length ≤ c1 ∧ c1 ≤ 9223372036854775807 ∧ Hid (SInv last m1) ∧ Hid (isRedB m = redGo (m1.length - 1) last m1) ∧ Ext w wr) (fun s _ _ _ _ _ _ _ _ => lenOf s)
  case atStart => exact ⟨_, _, m, 1, rfl, rfl, h0, hc, hc2, HI, HR, inferInstance⟩
  case round =>
    obtain ⟨A1, c1, m1, last, rfl, rfl, hm, k1, k2, hI, hR, hxr⟩ := hrel
    clear h0 h hc hc2 HI HR hlen hx
    obtain ⟨wo, rfl⟩ : ∃ wo : World, wo = wr := ⟨_, rfl⟩
    have hl1 := hI.out.len1
    have hl8 := hI.out.len8
    obtain ⟨n, hn⟩ : ∃ n, n = m1.length := ⟨_, rfl⟩
    by_cases hlt : 2 ≤ n
    · obtain ⟨b, o, b1, o1, c2, rfl, f1, f2, E1⟩ := hm.rowAt (i := 0) (n := n) (by omega) (hI.out.at0 hn (by omega)) (by omega)
      obtain ⟨e1, f3, f4, e2'⟩ := E1 wo inferInstance
      have e2 := e2' 0 (by omega)
      clear e2'
      have HE1 := Lib.hid E1
      clear E1
      obtain ⟨r, rfl⟩ : ∃ r, n = r + 1 := ⟨n - 1, by omega⟩
      have hdb := hI.out.b40 0 (by omega) 0 (by omega)
      have hcall := isShortened_any (w := wo) hm (c := c1) (by omega) (by omega) k1 k2 hI.out.all hI.out.b40
      have hcut : m1.length - 1 = (r - 1) + 1 := by omega
      rw [hcut] at hR
      rw [← hn] at hcall k1
      rw [← hn]
      obtain ⟨d, hd⟩ : ∃ d, d = ent m1 0 0 := ⟨_, rfl⟩
      rw [← hd] at e2 hdb
      simp only [Nat.add_zero] at e1 e2
      have HN := Lib.hid hn
      have HD := Lib.hid hd
      clear hn hd hl1 hcut
      have hr1 : 1 ≤ r := by omega
      have hr8 : r ≤ 7 := by have := HN.out; omega
      clear hl8 hlt
      have HC := Lib.hid hcall
      clear hcall
      cases hsh : shortB m1
      · have HV := Lib.hid (hR.out.trans (redGo_short hsh))
        rw [hsh] at HC
        clear hR hI hsh
        go_wp2_with fail
        refine HC.out.mono ?_
        rintro e w' ⟨rfl, rfl⟩
        go_wp2
        go_ret
        exact ⟨by rw [HV.out]; rfl, Step.of _ _⟩
      rw [hsh] at HC
      have HS := Lib.hid hsh
      clear hsh
      have hmk := run_make_any (P := Tryz.prog) Tryz.underlying26 infoSlI64 (by omega) (r : Int) (by omega) (by omega)
      have hmk2 := run_make_any (P := Tryz.prog) Tryz.underlying37 infoI64 (by omega) (r : Int) (by omega) (by omega)
      go_wp2_with fail
      refine HC.out.mono ?_
      rintro e w' ⟨rfl, rfl⟩
      go_wp2
      obtain ⟨F, hF⟩ : ∃ F : Nat → Nat → Int, F = fun i j => Int.tdiv (ent m1 0 0 * ent m1 (i + 1) (j + 1) - ent m1 (i + 1) 0 * ent m1 0 (j + 1)) last := ⟨_, rfl⟩
      have HF := Lib.hid hF
      clear hF
      go_loopw [7, 8, 9, 32] (fun _ _ _ i wr => ∃ k : Nat, k ≤ r ∧ i = .int .i64 k ∧ Heads1 wr wo.heap.size F r r k ∧ Ext wo wr) (fun _ _ _ i _ => r - (intOf i).toNat)
      case atStart => exact ⟨0, by omega, rfl, by simpa using Heads1.made wo F r r, inferInstance⟩
      case round =>
        obtain ⟨k, hk, rfl, hH, hxk⟩ := hrel
        by_cases hlt' : k < r
        · obtain ⟨hd, v1, v2, v3, v4⟩ := hH
          have hc1 := v1.cell (v4 k (Nat.le_refl _) hlt')
          have hc2 := v1.frozen k
          have hsz := v1.lt
          obtain ⟨wi, rfl⟩ : ∃ wi : World, wi = wr := ⟨_, rfl⟩
          have V2 := Lib.hid v2
          have V3 := Lib.hid v3
          have V4 := Lib.hid v4
          clear v2 v3 v4
          obtain ⟨b', o', b2, o2, c3, hA, g3, g4, G1⟩ := hm.rowAt (i := k + 1) (n := r + 1) (by have := HN.out; omega) (hI.out.at0 HN.out (by omega)) (by omega)
          injection hA with hA
          injection hA with x1 x2
          subst x1 x2
          obtain ⟨g1, g5, g6, -⟩ := G1 wi hxk
          have HG1 := Lib.hid G1
          clear G1
          go_wp2
          go_loopw [9, 48] (fun _ j wr => ∃ q : Nat, q ≤ r ∧ j = .int .i64 q ∧ Grow wo.heap.size 37 wi wr ∧ VRow wr wo.heap.size 37 (hd.set k (.slice (some ⟨wi.heap.size, 0, none⟩) r r)) ∧ Cells1 wr wi.heap.size (F k) r q ∧ Ext wo wr) (fun _ j _ => r - (intOf j).toNat)
          case atStart =>
            refine ⟨0, by omega, rfl, ?_, ?_, ?_, ?_⟩
            · exact ((Grow.refl _ _ _).setOld (p := ⟨wo.heap.size, k, none⟩) v1 (Nat.le_refl _) rfl _).alloc hxk.size _
            · exact (v1.set _ _).ext inferInstance
            · have := Cells1.made (wi.setCell ⟨wo.heap.size, k, none⟩ (.slice (some ⟨wi.heap.size, 0, none⟩) r r)) (F k) r
              rw [size_setCell, Nat.mul_one] at this; exact this
            · exact inferInstance
          case round =>
            obtain ⟨q, hq, rfl, hG, hV, hC, hxq⟩ := hrel
            by_cases hlt : q < r
            · have hkl : k < hd.length := by have := V2.out; omega
              have hrow : wr.cell? ⟨wo.heap.size, k, none⟩ = some (.slice (some ⟨wi.heap.size, 0, none⟩) r r) := hV.cell (by rw [List.getElem?_set_self hkl])
              obtain ⟨q1, q2, q3⟩ := hC.cells hlt
              obtain ⟨p1, p2, p3, p4⟩ := HE1.out wr hxq
              obtain ⟨t1, t2, t3, t4⟩ := HG1.out wr hxq
              have p5 := p4 (q + 1) (by omega)
              have t5 := t4 (q + 1) (by omega)
              have t6 := t4 0 (by omega)
              clear p4 t4
              have hnum := hI.out.nums HS.out (i := k) (j := q) (by have := HN.out; omega) (by have := HN.out; omega)
              have hFk : Hid (F k q = Int.tdiv (ent m1 0 0 * ent m1 (k + 1) (q + 1) - ent m1 (k + 1) 0 * ent m1 0 (q + 1)) last) := Lib.hid (by rw [HF.out])
              rw [← HD.out] at hnum hFk
              obtain ⟨y, hy⟩ : ∃ y, y = ent m1 (k + 1) (q + 1) := ⟨_, rfl⟩
              obtain ⟨a, ha⟩ : ∃ a, a = ent m1 (k + 1) 0 := ⟨_, rfl⟩
              obtain ⟨z, hz⟩ : ∃ z, z = ent m1 0 (q + 1) := ⟨_, rfl⟩
              rw [← hy, ← ha, ← hz] at hnum hFk
              rw [← hz] at p5
              rw [← hy] at t5
              rw [← ha] at t6
              simp only [Nat.add_zero] at t6 p1
              obtain ⟨-, -, n1, n2, n3, n4⟩ := hnum
              have hlp : 1 ≤ last := hI.out.lp
              have hll := hI.out.ll
              clear hy ha hz
              have hne : wo.heap.size ≠ wi.heap.size := by omega
              have hself : (hd.set k (.slice (some ⟨wi.heap.size, 0, none⟩) r r))[k]? = some (.slice (some ⟨wi.heap.size, 0, none⟩) r r) := by rw [List.getElem?_set_self hkl]
              have HNE := Lib.hid hne
              have HSE := Lib.hid hself
              clear hne hself
              go_wp2
              go_region
              rw [← hFk.out]
              go_wp2
              refine ⟨⟨q + 1, by omega, by go_num, ?_, ?_, ?_, ?_⟩, by simp [intOf] <;> omega⟩
              · exact (hG.trans (inferInstance : Ext wr wr.drew) hxk.size).setNew (p := ⟨wi.heap.size, q, none⟩) (Nat.le_refl _) hxk.size _
              · exact (hV.ext (inferInstance : Ext wr wr.drew)).far (p := ⟨wi.heap.size, q, none⟩) HNE.out _
              · exact (hC.ext (inferInstance : Ext wr wr.drew)).put hlt
              · exact (inferInstance : Ext wo wr.drew).setCell (p := ⟨wi.heap.size, q, none⟩) hxk.size _
            · obtain rfl : q = r := by omega
              have hrowk := Lib.hid hC.full
              go_wp2
              refine ⟨⟨k + 1, by omega, by go_num, ⟨_, hV, by rw [List.length_set]; exact V2.out, fun i hi => ?_, fun i hi1 hi2 => ?_⟩, hxq⟩, by simp [intOf] <;> omega⟩
              · have hkl : k < hd.length := by have := V2.out; omega
                rcases Nat.lt_or_ge i k with h | h
                · obtain ⟨B, y1, y2⟩ := V3.out i h
                  exact ⟨B, by rw [List.getElem?_set_ne (by omega)]; exact y1, y2.grow hG (by decide)⟩
                · obtain rfl : i = k := by omega
                  exact ⟨_, by rw [List.getElem?_set_self hkl], hrowk.out⟩
              · rw [List.getElem?_set_ne (by omega)]; exact V4.out i (by omega) hi2
        · obtain rfl : k = r := by omega
          clear hlt'
          have hNx : tab F k k = nextT last m1 := by
            unfold nextT
            rw [HF.out, ← HN.out]; rfl
          have hNM := hH.full (by omega)
          rw [hNx] at hNM
          have hINx := Lib.hid (hI.out.next (by have := HN.out; omega) HS.out)
          have hlenN : (nextT last m1).length = k := by rw [← hNx, tab_length]
          obtain ⟨b', o', b3, o3, c4, hA, g3, g4, G1⟩ := hNM.rowAt (i := 0) (n := k) (by omega) (hINx.out.at0 hlenN.symm (by omega)) (by omega)
          injection hA with hA
          injection hA with x1 x2
          subst x1 x2
          obtain ⟨g1, g5, g6, g7⟩ := G1 wr inferInstance
          have g8 := g7 0 (by omega)
          clear g7 G1
          obtain ⟨b', o', b2, o2, c3, hA, y3, y4, G1⟩ := hm.rowAt (i := 1) (n := k + 1) (by have := HN.out; omega) (hI.out.at0 HN.out (by omega)) (by omega)
          injection hA with hA
          injection hA with x1 x2
          subst x1 x2
          obtain ⟨y1, y5, y6, y7⟩ := G1 wr hxk
          have y8 := y7 0 (by omega)
          clear y7 G1
          have hxb := hINx.out.bound 0 (by omega) 0 (by omega)
          have hsh := of_decide_eq_true HS.out
          have hla := hsh.2.2 1 (by have := HN.out; omega) (by omega)
          have hd0 := hsh.1
          have hd1 := hsh.2.1
          have hon := fun h => hR.out.trans (redGo_on HS.out h)
          have hbad := fun h => hR.out.trans (redGo_bad h)
          clear hR
          rw [hlenN] at hxb
          rw [← HD.out] at hxb hla hd0 hd1 hon hbad
          simp only [Nat.add_zero] at g1 g8 y8
          obtain ⟨x, ex⟩ : ∃ x, x = ent (nextT last m1) 0 0 := ⟨_, rfl⟩
          obtain ⟨z, ez⟩ : ∃ z, z = ent m1 1 0 := ⟨_, rfl⟩
          rw [← ex] at hxb hon hbad g8
          rw [← ez] at hla hon hbad y8
          have hlp : 1 ≤ last := hI.out.lp
          have hll := hI.out.ll
          have hzz := mul_bound hla.1 hla.2 hla.1 hla.2
          have hdd : d * d ≤ 65536 * 65536 := Int.mul_le_mul (by omega) (by omega) (by omega) (by omega)
          have hKd : (393216 - 16384 * (k : Int)) * d ≤ 393216 * 65536 := Int.mul_le_mul (by omega) (by omega) (by omega) (by omega)
          have hx1 : -25769803776 ≤ x := by omega
          have hx2 : x ≤ 25769803776 := by omega
          have hlx1 : last * x ≤ 65536 * 25769803776 := Int.le_trans (Int.mul_le_mul_of_nonneg_left hx2 (by omega)) (Int.mul_le_mul_of_nonneg_right (by omega) (by omega))
          have hlx2 : -(65536 * 25769803776) ≤ last * x := by
            have e1 := Int.mul_le_mul_of_nonneg_left (c := last) hx1 (by omega)
            have e2 : last * 25769803776 ≤ 65536 * 25769803776 := Int.mul_le_mul_of_nonneg_right (by omega) (by omega)
            omega
          have hzz1 : z * z ≤ 4294967296 := by omega
          have hzz2 : -4294967296 ≤ z * z := by omega
          have hd3 : 3 * d * d ≤ 3 * 4294967296 := by rw [Int.mul_assoc]; omega
          have hd4 : 0 ≤ 3 * d * d := Int.mul_nonneg (by omega) (by omega)
          have HON := Lib.hid hon
          have HBAD := Lib.hid hbad
          have HX := Lib.hid ex
          have HZ := Lib.hid ez
          have HL := Lib.hid hlenN
          have HM := Lib.hid hNM
          clear hon hbad ex ez hlenN hNM hNx hsh hH hxb hKd hdd hzz hla
          cases hdec : decide (4 * (last * x + z * z) < 3 * d * d)
          · go_wp2
            refine ⟨⟨some ⟨wo.heap.size, 0, none⟩, k, nextT last m1, d, by rw [HL.out], rfl, HM.out, by rw [HL.out]; exact Nat.le_refl _, by omega, ?_, ?_, hxr.trans hxk⟩, by simp [lenOf] <;> omega⟩
            · rw [HD.out]; exact hINx
            · have := HON.out hdec
              exact Lib.hid (by rw [this, HL.out])
          · have HV := Lib.hid (HBAD.out hdec)
            go_wp2
            go_ret
            have : Ext w wr := hxr.trans hxk
            exact ⟨by rw [HV.out]; rfl, Step.of _ _⟩
    · obtain ⟨b, o, b1, o1, c2, rfl, e1, e2, f1, f2, f3, f4⟩ := hm.ent_ (i := 0) (j := 0) (n := 1) (by omega) (by rw [hI.out.all.at_ (by omega)]; omega) (by omega)
      have hn1 : m1.length = 1 := by omega
      have hb := hI.out.b40 0 (by omega) 0 (by omega)
      have HV : Hid (isRedB m = decide (0 < ent m1 0 0 ∧ ent m1 0 0 ≤ 10000)) := Lib.hid (by rw [hR.out, hn1]; rfl)
      clear hR
      obtain ⟨x, ex⟩ : ∃ x, x = ent m1 0 0 := ⟨_, rfl⟩
      rw [← ex] at e2 hb HV
      rw [hn1]
      simp only [Nat.add_zero] at e1 e2
      rw [hn1] at k1
      have EX := Lib.hid ex
      clear ex hn hl1 hl8 hlt hn1
      by_cases hz : 0 < x
      · have hzb : decide (0 < x) = true := by simpa using hz
        have hlb := Lib.hid (show decide (x ≤ 10000) = decide (0 < x ∧ x ≤ 10000) by simp [hz])
        clear hz
        go_wp2
        go_ret
        exact ⟨by rw [HV.out, ← hlb.out]; rfl, Step.of _ _⟩
      · have hzb : decide (0 < x) = false := by simpa using hz
        have hlb := Lib.hid (show decide (0 < x ∧ x ≤ 10000) = false by simp [hz])
        clear hz
        go_wp2
        go_ret
        exact ⟨by rw [HV.out, hlb.out]; rfl, Step.of _ _⟩
end Go.Proofs.YtjehjkipcaohpaaGreat

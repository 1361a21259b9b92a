/-
  Sums of products; the contract of apply of the package vector.
-/
import Derived.Test.YtaaldapmkhamlaaGreatVec1
namespace Go.Proofs.YtaaldapmkhamlaaGreat
open Go.RowKit
/-- The sum of the products. -/
def dotL : List Int → List Int → Int
  | a :: l, b :: m => a * b + dotL l m
  | _, _ => 0
theorem dotL_nil (m : List Int) : dotL [] m = 0 := by cases m <;> rfl
theorem dotL_take_succ : ∀ (l m : List Int) (k : Nat) (a b : Int), l[k]? = some a → m[k]? = some b → dotL (l.take (k + 1)) (m.take (k + 1)) = dotL (l.take k) (m.take k) + a * b
  | [], _, _, _, _, h, _ => by simp at h
  | _ :: _, [], _, _, _, _, h => by simp at h
  | x :: l, y :: m, 0, a, b, h, h' => by
    simp at h h'; subst h h'; simp [dotL, dotL_nil]
  | x :: l, y :: m, k + 1, a, b, h, h' => by
    have := dotL_take_succ l m k a b (by simpa using h) (by simpa using h')
    simp only [List.take_succ_cons, dotL, this]; omega
theorem mul_abs_le {a b A B : Int} (h1 : -A ≤ a) (h2 : a ≤ A) (h3 : -B ≤ b) (h4 : b ≤ B) : -(A * B) ≤ a * b ∧ a * b ≤ A * B := by
  have hA : 0 ≤ A := by omega
  have hB : 0 ≤ B := by omega
  have hab : (a * b).natAbs ≤ (A * B).natAbs := by
    rw [Int.natAbs_mul, Int.natAbs_mul]; exact Nat.mul_le_mul (by omega) (by omega)
  have hAB : 0 ≤ A * B := Int.mul_nonneg hA hB
  omega
theorem dotL_bound {A B : Int} (hA : 0 ≤ A) (hB : 0 ≤ B) : ∀ (l m : List Int), (∀ x ∈ l, -A ≤ x ∧ x ≤ A) → (∀ x ∈ m, -B ≤ x ∧ x ≤ B) → -((l.length : Int) * (A * B)) ≤ dotL l m ∧ dotL l m ≤ (l.length : Int) * (A * B)
  | [], m, _, _ => by simp [dotL_nil]
  | x :: l, [], _, _ => by
    have : 0 ≤ ((x :: l).length : Int) * (A * B) := Int.mul_nonneg (by omega) (Int.mul_nonneg hA hB)
    simp only [dotL]; omega
  | x :: l, y :: m, h1, h2 => by
    have ih := dotL_bound hA hB l m (fun z hz => h1 z (by simp [hz])) (fun z hz => h2 z (by simp [hz]))
    have hx := h1 x (by simp)
    have hy := h2 y (by simp)
    have := mul_abs_le hx.1 hx.2 hy.1 hy.2
    simp only [dotL, List.length_cons]
    have e : ((l.length + 1 : Nat) : Int) * (A * B) = (l.length : Int) * (A * B) + A * B := by rw [Int.natCast_add, Int.add_mul]; omega
    rw [e]; omega
/-- All entries of a matrix are small. -/
def Ent18 (m : List (List Int)) : Prop := ∀ r ∈ m, ∀ x ∈ r, -262144 ≤ x ∧ x ≤ 262144
def applyL (m : List (List Int)) (x : List Int) : List Int := m.map fun r => dotL r x
theorem applyL_length (m : List (List Int)) (x : List Int) : (applyL m x).length = m.length := by simp [applyL]
theorem take_get_set (l : List Int) (k : Nat) (n : Nat) (s t : Int) (hk : k ≤ l.length) : (l.take k ++ s :: List.replicate n 0).set k t = l.take k ++ t :: List.replicate n 0 := by
  rw [List.set_append_right _ _ (by simp; omega)]
  simp [Nat.min_eq_left hk]

theorem ints_cell {w : World} {e : TypeId} {b o i : Nat} {k : IntKind} {l : List Int} {x : Int} (h : Ints w (some ⟨b, o, none⟩) e k l) (hx : l[i]? = some x) : w.cell? ⟨b, o + i, none⟩ = some (.int k x) ∧ b < w.heap.size := by
  obtain ⟨b', o', y, hA, h1, h2, h3⟩ := h.at_ (i := i) (List.getElem?_eq_some_iff.1 hx).1
  injection hA with hA
  injection hA with x1 x2
  subst x1 x2
  rw [hx] at h1
  injection h1 with h1
  subst h1
  exact ⟨h2, h3⟩
theorem mkCells_row (n : Nat) (k : IntKind) : mkCells #[.int k 0] n = mkRow n k := by
  apply Array.ext'; rw [mkCells_one]; simp [mkRow]
set_option maxHeartbeats 1000000 in
theorem apply_any {w0 w : World} {A X : Option Addr} {c d : Nat} {m : List (List Int)} {x : List Int} (h : Mat64 w0 A m) (hX : Ints w0 X 2 .i64 x) (hn : AllLen m m.length) (hxl : x.length = m.length) (h8 : m.length ≤ 8) (hE : Ent18 m) (hR : ∀ y ∈ x, -1099511627776 ≤ y ∧ y ≤ 1099511627776) [hx : Ext w0 w] :
    Calls Tryz.prog 51 #[.slice A m.length c, .slice X x.length d] w (RetClone w 2 .i64 (applyL m x)) := by
  have h0 := h.ext hx
  have hX0 := hX.ext hx
  obtain ⟨n, hN⟩ : ∃ n, n = m.length := ⟨_, rfl⟩
  rw [hxl, ← hN]
  rw [← hN] at h8
  have hmk := run_make_any (P := Tryz.prog) Tryz.underlying22 infoI64 (by omega) (n : Int) (by omega) (by omega)
  have HN := Lib.hid hN
  have HX := Lib.hid hxl
  have HE := Lib.hid hE
  have HR := Lib.hid hR
  have HA := Lib.hid hn
  clear hN hxl hE hR hn
  obtain ⟨Y, hY⟩ : ∃ Y, Y = applyL m x := ⟨_, rfl⟩
  have HY := Lib.hid hY
  rw [← hY]
  clear hY
  have HYl : Hid (Y.length = n) := Lib.hid (by rw [HY.out, applyL_length, HN.out])
  go_enter Tryz.func51, Tryz.ntmps51
  go_wp2
  go_loopw [6, 7, 8, 9, 15] (fun _ _ _ _ i wr => ∃ k : Nat, k ≤ n ∧ i = .int .i64 k ∧ Row wr w.heap.size 2 .i64 (Y.take k ++ List.replicate (n - k) 0) ∧ Ext w wr) (fun _ _ _ _ i _ => n - (intOf i).toNat)
  case atStart => exact ⟨0, by omega, rfl, by have := Row.made w n .i64 2; simpa [mkRow, mkCells_row] using this, inferInstance⟩
  case round =>
    obtain ⟨k, hk, rfl, hV, hxk⟩ := hrel
    by_cases hlt : k < n
    · obtain ⟨wi, rfl⟩ : ∃ wi : World, wi = wr := ⟨_, rfl⟩
      have hkm : k < m.length := by have := HN.out; omega
      obtain ⟨b, o, B, c1, rfl, e1, e2, f1, f2, f3⟩ := h0.at_ (i := k) (r := m[k]) (by simp [hkm])
      have hrl : m[k].length = n := by rw [HN.out]; exact HA.out _ (List.getElem_mem hkm)
      obtain ⟨r, hr⟩ : ∃ r, r = m[k] := ⟨_, rfl⟩
      rw [← hr] at hrl e1 e2 f1
      rw [hrl] at e1 f1
      have HRE : Hid (∀ x ∈ r, -262144 ≤ x ∧ x ≤ 262144) := Lib.hid (by rw [hr]; exact HE.out _ (List.getElem_mem hkm))
      have HYk : Hid (Y[k]? = some (dotL r x)) := Lib.hid (by rw [HY.out, hr]; simp [applyL, hkm])
      have HRL := Lib.hid hrl
      have e3 : wi.cell? ⟨b, o + k, none⟩ = some (.slice B n c1) := (hxk.below.cell (p := ⟨b, o + k, none⟩) f3).trans e1
      have f4 : b < wi.heap.size := Nat.lt_of_lt_of_le f3 hxk.size
      have e2' := Lib.hid e2
      clear hr hrl e1 f3
      go_wp2
      go_loopw [8, 9, 22] (fun _ _ j wr => ∃ q : Nat, q ≤ n ∧ j = .int .i64 q ∧ Row wr w.heap.size 2 .i64 (Y.take k ++ dotL (r.take q) (x.take q) :: List.replicate (n - k - 1) 0) ∧ Ext w wr ∧ True) (fun _ _ j _ => n - (intOf j).toNat)
      case atStart =>
        refine ⟨0, by omega, rfl, ?_, hxk, trivial⟩
        have e : List.replicate (n - k) (0 : Int) = 0 :: List.replicate (n - k - 1) 0 := by rw [← List.replicate_succ]; congr 1; omega
        rw [e] at hV
        simpa [dotL] using hV
      case round =>
        obtain ⟨q, hq, rfl, hV, hxq, hG⟩ := hrel
        by_cases hqt : q < n
        · obtain ⟨b1, o1, a, hB, ha, -, -⟩ := e2.at_ (i := q) (by have := HRL.out; omega)
          subst hB
          obtain ⟨b2, o2, y, hX1, hy, -, -⟩ := hX0.at_ (i := q) (by have := HX.out; have := HN.out; omega)
          subst hX1
          obtain ⟨g1, g2⟩ := ints_cell ((e2'.out.ext hxq)) ha
          obtain ⟨g3, g4⟩ := ints_cell (hX0.ext hxq) hy
          have ba := HRE.out a (List.mem_of_getElem? ha)
          have bb := HR.out y (List.mem_of_getElem? hy)
          have bs := dotL_bound (A := 262144) (B := 1099511627776) (by omega) (by omega) (r.take q) (x.take q) (fun z hz => HRE.out z (List.mem_of_mem_take hz)) (fun z hz => HR.out z (List.mem_of_mem_take hz))
          have bm := mul_abs_le ba.1 ba.2 bb.1 bb.2
          have hstep := Lib.hid (dotL_take_succ r x q a y ha hy)
          rw [take_len (by have := HRL.out; omega)] at bs
          obtain ⟨s, hs⟩ : ∃ s, s = dotL (r.take q) (x.take q) := ⟨_, rfl⟩
          rw [← hs] at bs hstep hV
          have hc1 : wr.cell? ⟨w.heap.size, k, none⟩ = some (.int .i64 s) := by
            obtain ⟨z, z1, z2⟩ := hV.cell (i := k) (by simp; have := HYl.out; omega)
            rw [List.getElem?_append_right (by simp; omega)] at z1
            rw [show k - (List.take k Y).length = 0 by simp; have := HYl.out; omega] at z1
            simp at z1
            rw [z2, z1]
          have hc2 := hV.frozen k
          have hsz := hV.lt
          have bs1 : -2305843009213693952 ≤ s := by omega
          have bs2 : s ≤ 2305843009213693952 := by omega
          obtain ⟨ba1, ba2⟩ := ba
          obtain ⟨bb1, bb2⟩ := bb
          obtain ⟨bm1, bm2⟩ := bm
          have bm3 : -288230376151711744 ≤ a * y := by omega
          have bm4 : a * y ≤ 288230376151711744 := by omega
          clear hs bs ha hy bm1 bm2
          go_wp2
          go_region
          go_wp2
          refine ⟨⟨q + 1, by omega, by go_num, ?_, ?_, ?_⟩, by simp [intOf] <;> omega⟩
          · have h2 := (hV.ext (inferInstance : Ext wr wr.drew)).set k (s + a * y)
            rw [take_get_set _ _ _ _ _ (by have := HYl.out; omega)] at h2
            rw [hstep.out]
            exact h2
          · exact (inferInstance : Ext w wr.drew).setCell (p := ⟨w.heap.size, k, none⟩) (Nat.le_refl _) _
          · trivial
        · obtain rfl : q = n := by omega
          clear hqt
          go_wp2
          refine ⟨⟨k + 1, by omega, by go_num, ?_, hxq⟩, by simp [intOf] <;> omega⟩
          have e1 : r.take q = r := List.take_of_length_le (by rw [HRL.out]; omega)
          have e2 : x.take q = x := List.take_of_length_le (by rw [HX.out, ← HN.out]; omega)
          rw [e1, e2] at hV
          have e3 : Y.take (k + 1) = Y.take k ++ [dotL r x] := by rw [List.take_add_one, HYk.out]; rfl
          rw [e3, List.append_assoc, List.singleton_append]
          exact hV
    · obtain rfl : k = n := by omega
      clear hlt
      go_wp2
      go_ret
      have e : Y.take k ++ List.replicate (k - k) 0 = Y := by rw [Nat.sub_self, List.take_of_length_le (by rw [HYl.out]; omega)]; simp
      rw [e] at hV
      exact ⟨some ⟨w.heap.size, 0, none⟩, k, by rw [HYl.out]; rfl, hV.ints, by rw [HYl.out]; omega, by omega, Step.of _ _⟩
end Go.Proofs.YtaaldapmkhamlaaGreat

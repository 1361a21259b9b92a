/-
  The contract of dot of the package vector.
-/
import Derived.Test.YtaaldapmkhamlaaGreatVec3
namespace Go.Proofs.YtaaldapmkhamlaaGreat
open Go.RowKit
/-- The sum of the products that are not negative, and of the others, without their sign. -/
def posL : List Int → List Int → Int
  | a :: l, b :: m => (if 0 ≤ a * b then a * b else 0) + posL l m
  | _, _ => 0
def negL : List Int → List Int → Int
  | a :: l, b :: m => (if 0 ≤ a * b then 0 else -(a * b)) + negL l m
  | _, _ => 0
theorem pos_neg : ∀ l m, dotL l m = posL l m - negL l m
  | [], _ => by simp [dotL, posL, negL]
  | _ :: _, [] => by simp [dotL, posL, negL]
  | a :: l, b :: m => by simp only [dotL, posL, negL]; rw [pos_neg l m]; split <;> omega
theorem posL_nil (m : List Int) : posL [] m = 0 := by cases m <;> rfl
theorem negL_nil (m : List Int) : negL [] m = 0 := by cases m <;> rfl
theorem posL_take_succ : ∀ (l m : List Int) (k : Nat) (a b : Int), l[k]? = some a → m[k]? = some b → posL (l.take (k + 1)) (m.take (k + 1)) = posL (l.take k) (m.take k) + (if 0 ≤ a * b then a * b else 0)
  | [], _, _, _, _, h, _ => by simp at h
  | _ :: _, [], _, _, _, _, h => by simp at h
  | x :: l, y :: m, 0, a, b, h, h' => by simp at h h'; subst h h'; simp [posL, posL_nil]
  | x :: l, y :: m, k + 1, a, b, h, h' => by
    have := posL_take_succ l m k a b (by simpa using h) (by simpa using h')
    simp only [List.take_succ_cons, posL, this]; omega
theorem negL_take_succ : ∀ (l m : List Int) (k : Nat) (a b : Int), l[k]? = some a → m[k]? = some b → negL (l.take (k + 1)) (m.take (k + 1)) = negL (l.take k) (m.take k) + (if 0 ≤ a * b then 0 else -(a * b))
  | [], _, _, _, _, h, _ => by simp at h
  | _ :: _, [], _, _, _, _, h => by simp at h
  | x :: l, y :: m, 0, a, b, h, h' => by simp at h h'; subst h h'; simp [negL, negL_nil]
  | x :: l, y :: m, k + 1, a, b, h, h' => by
    have := negL_take_succ l m k a b (by simpa using h) (by simpa using h')
    simp only [List.take_succ_cons, negL, this]; omega
theorem posneg_bound {A B : Int} (hA : 0 ≤ A) (hB : 0 ≤ B) : ∀ (l m : List Int), (∀ x ∈ l, -A ≤ x ∧ x ≤ A) → (∀ x ∈ m, -B ≤ x ∧ x ≤ B) → 0 ≤ posL l m ∧ posL l m ≤ (l.length : Int) * (A * B) ∧ 0 ≤ negL l m ∧ negL l m ≤ (l.length : Int) * (A * B)
  | [], m, _, _ => by simp [posL_nil, negL_nil]
  | x :: l, [], _, _ => by
    have : 0 ≤ ((x :: l).length : Int) * (A * B) := Int.mul_nonneg (by omega) (Int.mul_nonneg hA hB)
    simp only [posL, negL]; omega
  | x :: l, y :: m, h1, h2 => by
    have ih := posneg_bound hA hB l m (fun z hz => h1 z (by simp [hz])) (fun z hz => h2 z (by simp [hz]))
    have hx := h1 x (by simp)
    have hy := h2 y (by simp)
    have := mul_abs_le hx.1 hx.2 hy.1 hy.2
    have hAB : 0 ≤ A * B := Int.mul_nonneg hA hB
    simp only [posL, negL, List.length_cons]
    have e : ((l.length + 1 : Nat) : Int) * (A * B) = (l.length : Int) * (A * B) + A * B := by rw [Int.natCast_add, Int.add_mul]; omega
    rw [e]; split <;> omega
/-- Within the limits of a norm. -/
def dotB (z : Int) : Bool := decide (-4611686018427387904 ≤ z ∧ z ≤ 4611686018427387904)
def RetDot (w : World) (z : Int) (e : Ending) (w' : World) : Prop := e = .returned (.tuple #[.int .i64 (if dotB z then z else 0), .bool (dotB z)]) ∧ Step w w'
def wideC (v : Int) : Obj := .cells #[.int .u64 (hiW v), .int .u64 (loW v)] 167 (0, 0)
theorem wideC_cells {w : World} {b : Nat} {v : Int} (h : w.heap[b]? = some (wideC v)) : w.cell? ⟨b, 0, none⟩ = some (.int .u64 (hiW v)) ∧ w.cell? ⟨b, 1, none⟩ = some (.int .u64 (loW v)) ∧ w.frozen? ⟨b, 0, none⟩ = false ∧ w.frozen? ⟨b, 1, none⟩ = false ∧ b < w.heap.size := box_cells2 h
theorem wideC_set {w : World} {b : Nat} {v v' : Int} (h : w.heap[b]? = some (wideC v)) : ((w.setCell ⟨b, 0, none⟩ (.int .u64 (hiW v'))).setCell ⟨b, 1, none⟩ (.int .u64 (loW v'))).heap[b]? = some (wideC v') := by
  rw [box_set2_1 (box_set2_0 h)]; rfl
theorem set2_far {w : World} {b c : Nat} {o : Obj} (h : w.heap[b]? = some o) (hne : b ≠ c) (u v : Value) : ((w.setCell ⟨c, 0, none⟩ u).setCell ⟨c, 1, none⟩ v).heap[b]? = some o :=
  (Below.heap_setCell _ ⟨c, 1, none⟩ v b hne).trans ((Below.heap_setCell w ⟨c, 0, none⟩ u b hne).trans h)
theorem wide_add_agg (v x y t : Int) (ht : t = x * y) (h0 : 0 ≤ v) (h1 : v ≤ 20282409603651670423947251286016) (hx0 : 0 ≤ x) (hx : x ≤ 1099511627776) (hy0 : 0 ≤ y) (hy : y ≤ 2305843009213693952) (w : World) :
    Calls Tryz.prog 91 #[.agg #[.int .u64 (hiW v), .int .u64 (loW v)], .int .u64 x, .int .u64 y] w (RetVal w (.agg #[.int .u64 (hiW (v + t)), .int .u64 (loW (v + t))])) := by
  obtain ⟨x, rfl⟩ := Int.eq_ofNat_of_zero_le hx0
  obtain ⟨y, rfl⟩ := Int.eq_ofNat_of_zero_le hy0
  have hm := Nat.mul_le_mul (show x ≤ 1099511627776 by omega) (show y ≤ 2305843009213693952 by omega)
  have := wide_add_any (w := w) v x y h0 (by omega) (by omega) (by omega)
  have e : ((x * y : Nat) : Int) = t := by rw [ht, Int.natCast_mul]
  rw [e] at this
  exact this
set_option maxRecDepth 10000 in
set_option maxHeartbeats 4000000 in
theorem dot_any {w0 w : World} {X Y : Option Addr} {c d : Nat} {x y : List Int} (hX : Ints w0 X 2 .i64 x) (hY : Ints w0 Y 2 .i64 y) (hl : y.length = x.length) (h8 : x.length ≤ 8) (bx : ∀ z ∈ x, -1099511627776 ≤ z ∧ z ≤ 1099511627776) (by' : ∀ z ∈ y, -2305843009213693952 ≤ z ∧ z ≤ 2305843009213693952) [hx : Ext w0 w] :
    Calls Tryz.prog 50 #[.slice X x.length c, .slice Y x.length d] w (RetDot w (dotL x y)) := by
  have hX0 := hX.ext hx
  have hY0 := hY.ext hx
  obtain ⟨n, hN⟩ : ∃ n, n = x.length := ⟨_, rfl⟩
  rw [← hN] at h8 ⊢
  have HN := Lib.hid hN
  have HL := Lib.hid hl
  have HBX := Lib.hid bx
  have HBY := Lib.hid by'
  clear hN hl bx by'
  go_enter Tryz.func50, Tryz.ntmps50
  go_wp2
  go_loopw [8, 9, 10, 17] (fun _ _ _ i wr => ∃ k : Nat, k ≤ n ∧ i = .int .i64 k ∧ wr.heap[w.heap.size]? = some (wideC (posL (x.take k) (y.take k))) ∧ wr.heap[w.heap.size + 1]? = some (wideC (negL (x.take k) (y.take k))) ∧ Ext w wr) (fun _ _ _ i _ => n - (intOf i).toNat)
  case atStart =>
    refine ⟨0, by omega, rfl, ?_, ?_, inferInstance⟩
    · have := heap_alloc_new w (.cells #[.int .u64 0, .int .u64 0] 167)
      exact heap_of_ext (w := w.alloc (.cells #[.int .u64 0, .int .u64 0] 167)) inferInstance this
    · have := heap_alloc_new (w.alloc (.cells #[.int .u64 0, .int .u64 0] 167)) (.cells #[.int .u64 0, .int .u64 0] 167)
      rw [World.size_alloc] at this
      exact this
  case round =>
    obtain ⟨k, hk, rfl, hP, hQ, hxr⟩ := hrel
    obtain ⟨P, eP⟩ : ∃ P, P = posL (x.take k) (y.take k) := ⟨_, rfl⟩
    obtain ⟨Q, eQ⟩ : ∃ Q, Q = negL (x.take k) (y.take k) := ⟨_, rfl⟩
    have bPQ := posneg_bound (A := 1099511627776) (B := 2305843009213693952) (by omega) (by omega) (x.take k) (y.take k) (fun z hz => HBX.out z (List.mem_of_mem_take hz)) (fun z hz => HBY.out z (List.mem_of_mem_take hz))
    rw [← eP, ← eQ] at bPQ
    rw [← eP] at hP
    rw [← eQ] at hQ
    have htl : (x.take k).length ≤ 8 := by rw [List.length_take]; have := HN.out; omega
    obtain ⟨bP0, bP1, bQ0, bQ1⟩ := bPQ
    have bP2 : P ≤ 20282409603651670423947251286016 := by omega
    have bQ2 : Q ≤ 20282409603651670423947251286016 := by omega
    obtain ⟨p1, p2, p3, p4, p5⟩ := wideC_cells hP
    obtain ⟨q1, q2, q3, q4, q5⟩ := wideC_cells hQ
    have HP := Lib.hid hP
    have HQ := Lib.hid hQ
    have EP := Lib.hid eP
    have EQ := Lib.hid eQ
    clear hP hQ eP eQ bP1 bQ1 htl
    by_cases hlt : k < n
    · obtain ⟨b1, o1, a, rfl, ha, g1, g2⟩ := (hX0.ext hxr).at_ (i := k) (by have := HN.out; omega)
      obtain ⟨b2, o2, b, rfl, hb, g3, g4⟩ := (hY0.ext hxr).at_ (i := k) (by have := HN.out; have := HL.out; omega)
      have ba := HBX.out a (List.mem_of_getElem? ha)
      have bb := HBY.out b (List.mem_of_getElem? hb)
      have HPS := Lib.hid (posL_take_succ x y k a b ha hb)
      have HQS := Lib.hid (negL_take_succ x y k a b ha hb)
      rw [← EP.out] at HPS
      rw [← EQ.out] at HQS
      clear ha hb
      have oP : Old w.heap.size wr := ⟨p5⟩
      have oQ : Old (w.heap.size + 1) wr := ⟨q5⟩
      obtain ⟨ba1, ba2⟩ := ba
      obtain ⟨bb1, bb2⟩ := bb
      by_cases ha0 : 0 ≤ a
      · by_cases hb0 : 0 ≤ b
        · skip
          have da : decide (0 ≤ a) = true := by simp; omega
          have da' : decide (a < 0) = false := by simp; omega
          have db : decide (0 ≤ b) = true := by simp; omega
          have db' : decide (b < 0) = false := by simp; omega
          obtain ⟨t, ht⟩ : ∃ t, t = a * b := ⟨_, rfl⟩
          have htm : a * b = t := ht.symm
          have ht0 : 0 ≤ t := by rw [ht]; exact Int.mul_nonneg (by omega) (by omega)
          have hC := wide_add_agg P a b t ht bP0 bP2 (by omega) (by omega) (by omega) (by omega)
          have HC := Lib.hid hC
          have hP' : posL (x.take (k + 1)) (y.take (k + 1)) = P + t := by rw [HPS.out, htm, if_pos (by omega)]
          have hQ' : negL (x.take (k + 1)) (y.take (k + 1)) = Q := by rw [HQS.out, htm, if_pos (by omega)]; omega
          have HP' := Lib.hid hP'
          have HQ' := Lib.hid hQ'
          clear hC ht htm hP' hQ' HPS HQS
          go_wp2_with (go_at_call 91; refine (HC.out _).mono ?_; rintro e w1 ⟨rfl, hs1⟩)
          have k1 := heap_of_ext hs1.ext HP.out
          have k2 := heap_of_ext hs1.ext HQ.out
          refine ⟨⟨k + 1, by omega, by go_num, ?_, ?_, ?_⟩, by simp [intOf] <;> omega⟩
          · rw [HP'.out]; exact wideC_set k1
          · rw [HQ'.out]; exact set2_far k2 (show w.heap.size + 1 ≠ w.heap.size by omega) _ _
          · exact ((Ext.trans hxr hs1.ext).setCell (p := ⟨w.heap.size, 0, none⟩) (Nat.le_refl _) _).setCell (p := ⟨w.heap.size, 1, none⟩) (Nat.le_refl _) _
        · skip
          have da : decide (0 ≤ a) = true := by simp; omega
          have da' : decide (a < 0) = false := by simp; omega
          have db : decide (0 ≤ b) = false := by simp; omega
          have db' : decide (b < 0) = true := by simp; omega
          obtain ⟨t, ht⟩ : ∃ t, t = a * (-b) := ⟨_, rfl⟩
          have htm : a * b = -t := by rw [ht, Int.mul_neg, Int.neg_neg]
          have ht0 : 0 ≤ t := by rw [ht]; exact Int.mul_nonneg (by omega) (by omega)
          have hC := wide_add_agg Q a (-b) t ht bQ0 bQ2 (by omega) (by omega) (by omega) (by omega)
          have HC := Lib.hid hC
          have hP' : posL (x.take (k + 1)) (y.take (k + 1)) = P := by
            rw [HPS.out, htm]; split <;> omega
          have hQ' : negL (x.take (k + 1)) (y.take (k + 1)) = Q + t := by
            rw [HQS.out, htm]; split <;> omega
          have HP' := Lib.hid hP'
          have HQ' := Lib.hid hQ'
          clear hC ht htm hP' hQ' HPS HQS
          go_wp2_with (go_at_call 91; refine (HC.out _).mono ?_; rintro e w1 ⟨rfl, hs1⟩)
          have k1 := heap_of_ext hs1.ext HQ.out
          have k2 := heap_of_ext hs1.ext HP.out
          refine ⟨⟨k + 1, by omega, by go_num, ?_, ?_, ?_⟩, by simp [intOf] <;> omega⟩
          · rw [HP'.out]; exact set2_far k2 (show w.heap.size ≠ w.heap.size + 1 by omega) _ _
          · rw [HQ'.out]; exact wideC_set k1
          · exact ((Ext.trans hxr hs1.ext).setCell (p := ⟨w.heap.size + 1, 0, none⟩) (Nat.le_succ _) _).setCell (p := ⟨w.heap.size + 1, 1, none⟩) (Nat.le_succ _) _
      · by_cases hb0 : 0 ≤ b
        · skip
          have da : decide (0 ≤ a) = false := by simp; omega
          have da' : decide (a < 0) = true := by simp; omega
          have db : decide (0 ≤ b) = true := by simp; omega
          have db' : decide (b < 0) = false := by simp; omega
          obtain ⟨t, ht⟩ : ∃ t, t = (-a) * b := ⟨_, rfl⟩
          have htm : a * b = -t := by rw [ht, Int.neg_mul, Int.neg_neg]
          have ht0 : 0 ≤ t := by rw [ht]; exact Int.mul_nonneg (by omega) (by omega)
          have hC := wide_add_agg Q (-a) b t ht bQ0 bQ2 (by omega) (by omega) (by omega) (by omega)
          have HC := Lib.hid hC
          have hP' : posL (x.take (k + 1)) (y.take (k + 1)) = P := by
            rw [HPS.out, htm]; split <;> omega
          have hQ' : negL (x.take (k + 1)) (y.take (k + 1)) = Q + t := by
            rw [HQS.out, htm]; split <;> omega
          have HP' := Lib.hid hP'
          have HQ' := Lib.hid hQ'
          clear hC ht htm hP' hQ' HPS HQS
          go_wp2_with (go_at_call 91; refine (HC.out _).mono ?_; rintro e w1 ⟨rfl, hs1⟩)
          have k1 := heap_of_ext hs1.ext HQ.out
          have k2 := heap_of_ext hs1.ext HP.out
          refine ⟨⟨k + 1, by omega, by go_num, ?_, ?_, ?_⟩, by simp [intOf] <;> omega⟩
          · rw [HP'.out]; exact set2_far k2 (show w.heap.size ≠ w.heap.size + 1 by omega) _ _
          · rw [HQ'.out]; exact wideC_set k1
          · exact ((Ext.trans hxr hs1.ext).setCell (p := ⟨w.heap.size + 1, 0, none⟩) (Nat.le_succ _) _).setCell (p := ⟨w.heap.size + 1, 1, none⟩) (Nat.le_succ _) _
        · skip
          have da : decide (0 ≤ a) = false := by simp; omega
          have da' : decide (a < 0) = true := by simp; omega
          have db : decide (0 ≤ b) = false := by simp; omega
          have db' : decide (b < 0) = true := by simp; omega
          obtain ⟨t, ht⟩ : ∃ t, t = (-a) * (-b) := ⟨_, rfl⟩
          have htm : a * b = t := by rw [ht, Int.neg_mul_neg]
          have ht0 : 0 ≤ t := by rw [ht]; exact Int.mul_nonneg (by omega) (by omega)
          have hC := wide_add_agg P (-a) (-b) t ht bP0 bP2 (by omega) (by omega) (by omega) (by omega)
          have HC := Lib.hid hC
          have hP' : posL (x.take (k + 1)) (y.take (k + 1)) = P + t := by rw [HPS.out, htm, if_pos (by omega)]
          have hQ' : negL (x.take (k + 1)) (y.take (k + 1)) = Q := by rw [HQS.out, htm, if_pos (by omega)]; omega
          have HP' := Lib.hid hP'
          have HQ' := Lib.hid hQ'
          clear hC ht htm hP' hQ' HPS HQS
          go_wp2_with (go_at_call 91; refine (HC.out _).mono ?_; rintro e w1 ⟨rfl, hs1⟩)
          have k1 := heap_of_ext hs1.ext HP.out
          have k2 := heap_of_ext hs1.ext HQ.out
          refine ⟨⟨k + 1, by omega, by go_num, ?_, ?_, ?_⟩, by simp [intOf] <;> omega⟩
          · rw [HP'.out]; exact wideC_set k1
          · rw [HQ'.out]; exact set2_far k2 (show w.heap.size + 1 ≠ w.heap.size by omega) _ _
          · exact ((Ext.trans hxr hs1.ext).setCell (p := ⟨w.heap.size, 0, none⟩) (Nat.le_refl _) _).setCell (p := ⟨w.heap.size, 1, none⟩) (Nat.le_refl _) _
    · obtain rfl : k = n := by omega
      clear hlt
      have hdot : dotL x y = P - Q := by
        rw [EP.out, EQ.out, ← pos_neg, List.take_of_length_le (by have := HN.out; omega), List.take_of_length_le (by have := HN.out; have := HL.out; omega)]
      have HD := Lib.hid hdot
      clear hdot
      have hm1 := fun W => wide_minus_any (w := W) P Q bP0 (by omega) bQ0 (by omega)
      have hm2 := fun W => wide_minus_any (w := W) Q P bQ0 (by omega) bP0 (by omega)
      unfold wideV RetMinus at hm1 hm2
      have oP : Old w.heap.size wr := ⟨p5⟩
      have oQ : Old (w.heap.size + 1) wr := ⟨q5⟩
      cases hn1 : normB (P - Q)
      · rw [hn1] at hm1
        have h1' : ¬ (0 ≤ P - Q ∧ P - Q ≤ 4611686018427387904) := of_decide_eq_false hn1
        cases hn2 : normB (Q - P)
        · rw [hn2] at hm2
          have h2' : ¬ (0 ≤ Q - P ∧ Q - P ≤ 4611686018427387904) := of_decide_eq_false hn2
          have HB : Hid (dotB (P - Q) = false) := Lib.hid (decide_eq_false (by omega))
          have HM1 := Lib.hid hm1
          have HM2 := Lib.hid hm2
          clear hm1 hm2 h1' h2' hn1 hn2
          go_wp2_with (first | (go_at_call 92; refine (HM1.out _).mono ?_; clear HM1; rintro e w1 ⟨rfl, hs1⟩) | (go_at_call 92; refine (HM2.out _).mono ?_; rintro e w2 ⟨rfl, hs2⟩))
          go_ret2
          exact ⟨by rw [HD.out, HB.out]; rfl, Step.of _ _⟩
        · rw [hn2] at hm2
          have h2' : 0 ≤ Q - P ∧ Q - P ≤ 4611686018427387904 := of_decide_eq_true hn2
          have HB : Hid (dotB (P - Q) = true) := Lib.hid (decide_eq_true (by omega))
          obtain ⟨z, hz⟩ : ∃ z, z = Q - P := ⟨_, rfl⟩
          rw [← hz] at hm2 h2'
          have HZ := Lib.hid hz
          have HM1 := Lib.hid hm1
          have HM2 := Lib.hid hm2
          obtain ⟨z1, z2⟩ := h2'
          clear hm1 hm2 h1' hn1 hn2 hz
          go_wp2_with (first | (go_at_call 92; refine (HM1.out _).mono ?_; clear HM1; rintro e w1 ⟨rfl, hs1⟩) | (go_at_call 92; refine (HM2.out _).mono ?_; rintro e w2 ⟨rfl, hs2⟩))
          go_ret2
          refine ⟨?_, Step.of _ _⟩
          rw [HD.out, HB.out, if_pos rfl, show P - Q = -z by have := HZ.out; omega]
          rfl
      · rw [hn1] at hm1
        have h1' : 0 ≤ P - Q ∧ P - Q ≤ 4611686018427387904 := of_decide_eq_true hn1
        have HB : Hid (dotB (P - Q) = true) := Lib.hid (decide_eq_true (by omega))
        obtain ⟨z, hz⟩ : ∃ z, z = P - Q := ⟨_, rfl⟩
        rw [← hz] at hm1 h1'
        have HZ := Lib.hid hz
        have HM1 := Lib.hid hm1
        obtain ⟨z1, z2⟩ := h1'
        clear hm1 hm2 hn1 hz
        go_wp2_with (go_at_call 92; refine (HM1.out _).mono ?_; clear HM1; rintro e w1 ⟨rfl, hs1⟩)
        go_ret2
        refine ⟨?_, Step.of _ _⟩
        rw [HD.out, HB.out, if_pos rfl, ← HZ.out]
        rfl
end Go.Proofs.YtaaldapmkhamlaaGreat

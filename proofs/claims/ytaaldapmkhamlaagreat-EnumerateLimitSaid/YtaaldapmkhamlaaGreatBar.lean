/-
  Contracts of the program's package bareiss.
-/
import Derived.Test.YtaaldapmkhamlaaGreatMat2
namespace Go.Proofs.YtaaldapmkhamlaaGreat
open Go.RowKit
/-- The headers of a table whose rows lie behind each other in block E. -/
def HeadsT (w : World) (G E : Nat) (rows cols k : Nat) : Prop :=
  ∃ hd : List Value, VRow w G 152 hd ∧ hd.length = rows ∧ (∀ i, i < k → hd[i]? = some (.slice (some ⟨E, i * cols * 2, none⟩) cols cols)) ∧ ∀ i, k ≤ i → i < rows → hd[i]? = some (.slice none 0 0)
theorem HeadsT.made (w : World) (E rows cols : Nat) : HeadsT (w.alloc (.cells (mkCells #[.slice none 0 0] (rows * 1)) 152)) w.heap.size E rows cols 0 := by
  refine ⟨_, VRow.new w _ _, ?_, fun i hi => absurd hi (by omega), fun i _ hi => ?_⟩
  · rw [mkCells_size]; omega
  · rw [mkCells_one, Nat.mul_one, List.getElem?_replicate]; simp [hi]
theorem HeadsT.cell {w : World} {G E rows cols k : Nat} (h : HeadsT w G E rows cols k) (hk : k < rows) : w.cell? ⟨G, k, none⟩ = some (.slice none 0 0) ∧ w.frozen? ⟨G, k, none⟩ = false ∧ G < w.heap.size := by
  obtain ⟨hd, h1, h2, h3, h4⟩ := h
  exact ⟨h1.cell (h4 k (Nat.le_refl _) hk), h1.frozen _, h1.lt⟩
theorem HeadsT.put {w : World} {G E rows cols k : Nat} (h : HeadsT w G E rows cols k) (hk : k < rows) : HeadsT (w.setCell ⟨G, k, none⟩ (.slice (some ⟨E, k * cols * 2, none⟩) cols cols)) G E rows cols (k + 1) := by
  obtain ⟨hd, h1, h2, h3, h4⟩ := h
  refine ⟨_, h1.set k _, by simp [h2], fun i hi => ?_, fun i hi1 hi2 => ?_⟩
  · rcases Nat.lt_or_ge i k with h | h
    · rw [List.getElem?_set_ne (by omega)]; exact h3 i h
    · obtain rfl : i = k := by omega
      rw [List.getElem?_set_self (by omega)]
  · rw [List.getElem?_set_ne (by omega)]; exact h4 i (by omega) hi2
theorem HeadsT.row {w : World} {G E rows cols k : Nat} (h : HeadsT w G E rows cols (k + 1)) : w.cell? ⟨G, k, none⟩ = some (.slice (some ⟨E, k * cols * 2, none⟩) cols cols) := by
  obtain ⟨hd, h1, h2, h3, h4⟩ := h
  exact h1.cell (h3 k (Nat.lt_succ_self k))
theorem HeadsT.rowM {w : World} {G E rows cols k m : Nat} (h : HeadsT w G E rows cols (k + 1)) (hm : m = k * cols) : w.cell? ⟨G, k, none⟩ = some (.slice (some ⟨E, m * 2, none⟩) cols cols) := by rw [hm]; exact h.row
theorem HeadsT.ext {w w' : World} {G E rows cols k : Nat} (h : HeadsT w G E rows cols k) (hx : Ext w w') : HeadsT w' G E rows cols k := by
  obtain ⟨hd, h1, h2⟩ := h
  exact ⟨hd, h1.ext hx, h2⟩
theorem HeadsT.far {w : World} {G E rows cols k : Nat} (h : HeadsT w G E rows cols k) {p : Addr} (hp : G ≠ p.block) (u : Value) : HeadsT (w.setCell p u) G E rows cols k := by
  obtain ⟨hd, h1, h2⟩ := h
  exact ⟨hd, h1.far hp u, h2⟩
theorem HeadsT.heap {w : World} {G E rows cols k : Nat} (h : HeadsT w G E rows cols k) : ∃ cs, w.heap[G]? = some (.cells cs 152 (0, 0)) := by
  obtain ⟨hd, h1, h2⟩ := h
  exact ⟨_, h1⟩
/-- A part of a row, as a slice. -/
theorem Cells2.part {w : World} {g : Nat} {F : Nat → Int} {N : Nat} (h : Cells2 w g F N N) (a n : Nat) (ha : a + n ≤ N) : IntsV w (some ⟨g, a * 2, none⟩) ((List.range n).map fun j => F (a + j)) := by
  obtain ⟨cs, h1, h2, h3, h4⟩ := h
  refine ⟨(cs.drop (a * 2)).take (n * 2), by simp; omega, fun h0 => ?_, fun i z hz => ?_⟩
  · refine ⟨g, a * 2, cs.toArray, (0, 0), rfl, h1, fun j u hu => ?_⟩
    rw [List.getElem?_take] at hu
    split at hu
    · rw [List.getElem?_drop] at hu; simpa using hu
    · cases hu
  · have hi : i < n := by
      rcases Nat.lt_or_ge i n with hi | hi
      · exact hi
      · rw [List.getElem?_eq_none (by simpa using hi)] at hz; cases hz
    simp [hi] at hz
    subst hz
    obtain ⟨s, B, m, c, a1, a2, a3⟩ := h3 (a + i) (by omega)
    refine ⟨s, B, m, c, ?_, ?_, a3⟩
    · rw [List.getElem?_take, if_pos (by omega), List.getElem?_drop, ← Nat.add_mul]; exact a1
    · rw [List.getElem?_take, if_pos (by omega), List.getElem?_drop, ← Nat.add_assoc, ← Nat.add_mul]; exact a2
theorem lin_div (F : Nat → Nat → Int) (k q cols : Nat) (hq : q < cols) : F ((k * cols + q) / cols) ((k * cols + q) % cols) = F k q := by
  rw [Nat.mul_comm, Nat.mul_add_div (by omega), Nat.div_eq_of_lt hq, Nat.mul_add_mod, Nat.mod_eq_of_lt hq, Nat.add_zero]

/-! ## Matrices whose rows lie in certain blocks -/
def IntsX (X : Nat → Prop) (w : World) (A : Option Addr) (zs : List Int) : Prop := IntsV w A zs ∧ (0 < zs.length → ∃ b o, A = some ⟨b, o, none⟩ ∧ X b)
def MatX (X : Nat → Prop) (w : World) (A : Option Addr) (m : List (List Int)) : Prop :=
  ∃ vs : List Value, vs.length = m.length ∧ Arr w A 152 vs ∧ ∀ (i : Nat) (r : List Int), m[i]? = some r → ∃ B c, vs[i]? = some (.slice B r.length c) ∧ IntsX X w B r ∧ r.length ≤ c ∧ c ≤ 9223372036854775807
theorem MatX.mat {X : Nat → Prop} {w : World} {A : Option Addr} {m : List (List Int)} (h : MatX X w A m) : MatV w A m := by
  obtain ⟨vs, h1, h2, h3⟩ := h
  refine ⟨vs, h1, h2, fun i r hr => ?_⟩
  obtain ⟨B, c, a1, a2, a3⟩ := h3 i r hr
  exact ⟨B, c, a1, a2.1, a3⟩
theorem MatX.mono {X Y : Nat → Prop} {w : World} {A : Option Addr} {m : List (List Int)} (h : MatX X w A m) (hxy : ∀ b, X b → Y b) : MatX Y w A m := by
  obtain ⟨vs, h1, h2, h3⟩ := h
  refine ⟨vs, h1, h2, fun i r hr => ?_⟩
  obtain ⟨B, c, a1, a2, a3⟩ := h3 i r hr
  refine ⟨B, c, a1, ⟨a2.1, fun h0 => ?_⟩, a3⟩
  obtain ⟨b, o, e, hx⟩ := a2.2 h0
  exact ⟨b, o, e, hxy b hx⟩
theorem MatV.old {w : World} {A : Option Addr} {m : List (List Int)} (h : MatV w A m) : MatX (· < w.heap.size) w A m := by
  obtain ⟨vs, h1, h2, h3⟩ := h
  refine ⟨vs, h1, h2, fun i r hr => ?_⟩
  obtain ⟨B, c, a1, a2, a3⟩ := h3 i r hr
  refine ⟨B, c, a1, ⟨a2, fun h0 => ?_⟩, a3⟩
  obtain ⟨b, o, g, B', n, c', e, _, _, _, hb⟩ := a2.at_ h0
  exact ⟨b, o, e, hb⟩
theorem MatX.ext {X : Nat → Prop} {w w' : World} {A : Option Addr} {m : List (List Int)} (h : MatX X w A m) (hx : Ext w w') : MatX X w' A m := by
  obtain ⟨vs, h1, h2, h3⟩ := h
  refine ⟨vs, h1, h2.ext hx, fun i r hr => ?_⟩
  obtain ⟨B, c, a1, a2, a3⟩ := h3 i r hr
  exact ⟨B, c, a1, ⟨a2.1.ext hx, a2.2⟩, a3⟩
theorem MatX.grow {X : Nat → Prop} {w w' : World} {base : Nat} {e : TypeId} {A : Option Addr} {m : List (List Int)} (h : MatX X w A m) (hg : Grow base e w w') (h0 : 152 ≠ e) (h1 : 158 ≠ e) (h2 : 237 ≠ e) : MatX X w' A m := by
  obtain ⟨vs, a1, a2, a3⟩ := h
  refine ⟨vs, a1, a2.grow hg h0, fun i r hr => ?_⟩
  obtain ⟨B, c, b1, b2, b3⟩ := a3 i r hr
  exact ⟨B, c, b1, ⟨b2.1.grow hg h1 h2, b2.2⟩, b3⟩
/-- A store into a box of an integer that is no part of the matrix. -/
theorem MatX.setBox {L : Nat} {w : World} {A : Option Addr} {m : List (List Int)} (h : MatX (· ≠ L) w A m) {cs : Array Value} {fr : Nat × Nat} (hL : w.heap[L]? = some (.cells cs 158 fr)) (i : Nat) (u : Value) : MatX (· ≠ L) (w.setCell ⟨L, i, none⟩ u) A m := by
  obtain ⟨vs, a1, a2, a3⟩ := h
  refine ⟨vs, a1, a2.setCell (p := ⟨L, i, none⟩) hL (by decide) u, fun k r hr => ?_⟩
  obtain ⟨B, c, b1, b2, b3⟩ := a3 k r hr
  refine ⟨B, c, b1, ⟨?_, b2.2⟩, b3⟩
  obtain ⟨ws, c1, c2, c3⟩ := b2.1
  refine ⟨ws, c1, fun h0 => ?_, fun j z hz => ?_⟩
  · have hpos : 0 < r.length := by omega
    obtain ⟨b, o, hB, hne⟩ := b2.2 hpos
    obtain ⟨b', o', cs', fr', hB', hh, hc⟩ := c2 h0
    rw [hB] at hB'
    injection hB' with hB'
    injection hB' with e1 e2
    subst e1 e2
    exact ⟨b, o, cs', fr', hB, (Below.heap_setCell w ⟨L, i, none⟩ u b hne).trans hh, hc⟩
  · obtain ⟨g, B', n, c', d1, d2, d3⟩ := c3 j z hz
    exact ⟨g, B', n, c', d1, d2, d3.setCell (p := ⟨L, i, none⟩) hL (by decide) u⟩
/-- A new matrix is returned. -/
def RetMatX (w : World) (m : List (List Int)) (e : Ending) (w' : World) : Prop := ∃ A c, e = .returned (.slice A m.length c) ∧ MatX (w.heap.size ≤ ·) w' A m ∧ m.length ≤ c ∧ c ≤ 9223372036854775807 ∧ Step w w'

set_option maxRecDepth 10000 in
set_option maxHeartbeats 1000000 in
theorem table_any {w : World} (f : FuncId) (caps : Array Value) (rows cols : Nat) (h1 : rows ≤ 1000) (h2 : cols ≤ 1000) (hc : 1 ≤ cols) (hf : IsFn f) (F : Nat → Nat → Int)
    (H : ∀ (i j : Nat) (W : World), i < rows → j < cols → Ext w W → Calls Tryz.prog f (#[.int .i64 i, .int .i64 j] ++ caps) W (RetInt W (F i j))) :
    Calls Tryz.prog 137 #[.int .i64 rows, .int .i64 cols, .func (.func f) #[] caps] w (RetMatX w (tab F rows cols)) := by
  have hp1 : rows * cols ≤ 1000000 := Nat.mul_le_mul h1 h2
  obtain ⟨N, hN⟩ : ∃ N, N = rows * cols := ⟨_, rfl⟩
  have hp2 : (rows : Int) * (cols : Int) = (N : Int) := by rw [hN]; simp
  rw [← hN] at hp1
  have hmk := run_make_any (P := Tryz.prog) Tryz.underlying152 infoInt (by omega) (N : Int) (by omega) (by omega)
  have hmk2 := run_make_any (P := Tryz.prog) Tryz.underlying160 infoSlInt (by omega) (rows : Int) (by omega) (by omega)
  have HH := Lib.hid H
  have HF := Lib.hid hf
  have HN := Lib.hid hN
  clear H hf hN
  obtain ⟨L, hL⟩ : ∃ L : Nat → Int, L = fun t => F (t / cols) (t % cols) := ⟨_, rfl⟩
  have HL := Lib.hid hL
  clear hL
  go_enter Tryz.func137, Tryz.ntmps137
  go_wp2
  go_loopw [9, 10, 19] (fun _ _ i wr => ∃ k : Nat, k ≤ rows ∧ i = .int .i64 k ∧ Cells2 wr w.heap.size L N (k * cols) ∧ HeadsT wr (w.heap.size + 1) w.heap.size rows cols k ∧ Ext w wr) (fun _ _ i _ => rows - (intOf i).toNat)
  case atStart =>
    refine ⟨0, by omega, rfl, ?_, ?_, inferInstance⟩
    · have := (Cells2.made w L N).ext (inferInstance : Ext _ ((w.alloc (.cells (mkCells #[.bool false, .slice none 0 0] (N * 2)) 158)).alloc (.cells (mkCells #[.slice none 0 0] (rows * 1)) 152)))
      simpa [Value.cells] using this
    · have := HeadsT.made (w.alloc (.cells (mkCells #[.bool false, .slice none 0 0] (N * 2)) 158)) w.heap.size rows cols
      simpa [Value.cells] using this
  case round =>
    obtain ⟨k, hk, rfl, hC, hH, hxr⟩ := hrel
    by_cases hlt' : k < rows
    · obtain ⟨m, hm⟩ : ∃ m, m = k * cols := ⟨_, rfl⟩
      have hm1 : (k : Int) * (cols : Int) = (m : Int) := by rw [hm]; simp
      have hm2 : ((k : Int) + 1) * (cols : Int) = (m : Int) + (cols : Int) := by rw [Int.add_mul, hm1]; omega
      have hm3 : m + cols ≤ N := by rw [hm, HN.out, ← Nat.succ_mul]; exact Nat.mul_le_mul_right _ hlt'
      have HM := Lib.hid hm
      rw [← hm] at hC
      clear hm
      obtain ⟨hc1, hc2, hsz⟩ := hH.cell hlt'
      have hH' := hH.put hlt'
      rw [← HM.out] at hH'
      have hC' : Cells2 (wr.setCell ⟨w.heap.size + 1, k, none⟩ (.slice (some ⟨w.heap.size, m * 2, none⟩) cols cols)) w.heap.size L N m := by
        obtain ⟨cs, hcs⟩ := hH.heap
        exact hC.far (p := ⟨w.heap.size + 1, k, none⟩) hcs (by decide) (by decide) _
      have hx' : Ext w (wr.setCell ⟨w.heap.size + 1, k, none⟩ (.slice (some ⟨w.heap.size, m * 2, none⟩) cols cols)) := inferInstance
      go_wp2
      simp only [Nat.add_sub_cancel_left]
      go_loopw [10, 43] (fun _ j wr => ∃ q : Nat, q ≤ cols ∧ j = .int .i64 q ∧ Cells2 wr w.heap.size L N (m + q) ∧ HeadsT wr (w.heap.size + 1) w.heap.size rows cols (k + 1) ∧ Ext w wr) (fun _ j _ => cols - (intOf j).toNat)
      case atStart => exact ⟨0, by omega, rfl, hC', hH', hx'⟩
      case round =>
        clear hC hH hxr hC' hH' hx' hc1 hc2 hsz
        obtain ⟨q, hq, rfl, hC, hH, hxr⟩ := hrel
        by_cases hlt : q < cols
        · have hrow := hH.row
          rw [← HM.out] at hrow
          obtain ⟨c1, c2, c3, c4, c5⟩ := hC.cells (show m + q < N by omega)
          rw [Nat.add_mul] at c1 c2 c3 c4
          have hFq := Lib.hid (show L (m + q) = F k q by rw [HL.out, HM.out]; exact lin_div F k q cols hlt)
          have hcf := HF.out
          unfold IsFn at hcf
          go_wp2
          go_region_held3 (fun w' => w'.cell? ⟨w.heap.size + 1, k, none⟩ = some (.slice (some ⟨w.heap.size, m * 2, none⟩) cols cols))
            (first
              | exact (hH.ext inferInstance).rowM HM.out
              | exact (((hH.ext inferInstance).far (p := ⟨w.heap.size, m * 2 + q * 2, none⟩) (show w.heap.size + 1 ≠ w.heap.size by omega) _).far (p := ⟨w.heap.size, m * 2 + q * 2 + 1, none⟩) (show w.heap.size + 1 ≠ w.heap.size by omega) _).rowM HM.out)
            (first
              | (refine (HH.out _ _ _ hlt' hlt inferInstance).mono ?_; rintro e w2 ⟨g, B, k', d, rfl, hz, hs2⟩; obtain ⟨d1, d2, d3, d4, d5⟩ := (hC.ext (inferInstance : Ext wr w2)).cells (show m + q < N by omega); rw [Nat.add_mul] at d1 d2 d3 d4))
          go_wp2
          refine ⟨⟨q + 1, by omega, by go_num, ?_, ?_, inferInstance⟩, by simp [intOf] <;> omega⟩
          · have h9 := (hC.ext (inferInstance : Ext wr w2)).put (show m + q < N by omega) (by rw [hFq.out]; exact hz)
            rw [Nat.add_mul] at h9
            exact h9
          · exact ((hH.ext (inferInstance : Ext wr w2)).far (p := ⟨w.heap.size, m * 2 + q * 2, none⟩) (show w.heap.size + 1 ≠ w.heap.size by omega) _).far (p := ⟨w.heap.size, m * 2 + q * 2 + 1, none⟩) (show w.heap.size + 1 ≠ w.heap.size by omega) _
        · obtain rfl : q = cols := by omega
          rw [HM.out, ← Nat.succ_mul] at hC
          go_wp2
          exact ⟨⟨k + 1, by omega, by go_num, hC, hH, hxr⟩, by simp [intOf] <;> omega⟩
    · obtain rfl : k = rows := by omega
      rw [← HN.out] at hC
      have HHd := Lib.hid hH
      clear hH
      go_wp2
      go_ret
      obtain ⟨hd, v1, v2, v3, v4⟩ := HHd.out
      refine ⟨_, k, by rw [tab_length]; rfl, ⟨hd, by rw [v2, tab_length], v1.arr, fun i r hr => ?_⟩, by rw [tab_length]; omega, by omega, hxr.toStep⟩
      have hi : i < k := by
        rcases Nat.lt_or_ge i k with hi | hi
        · exact hi
        · rw [List.getElem?_eq_none (by rw [tab_length]; exact hi)] at hr; cases hr
      rw [tab_get _ _ _ _ hi] at hr
      injection hr with hr
      subst hr
      have hle : i * cols + cols ≤ N := by rw [HN.out, ← Nat.succ_mul]; exact Nat.mul_le_mul_right _ hi
      have hp := hC.part (i * cols) cols hle
      have he : ((List.range cols).map fun j => L (i * cols + j)) = (List.range cols).map fun j => F i j := by
        apply List.map_congr_left
        intro j hj
        rw [HL.out]
        exact lin_div F i j cols (List.mem_range.1 hj)
      rw [he] at hp
      exact ⟨_, cols, by simpa using v3 i hi, ⟨hp, fun _ => ⟨_, _, rfl, Nat.le_refl _⟩⟩, by simp, by omega⟩

theorem IntV.len2 {w : World} {neg : Bool} {A : Option Addr} {n c : Nat} {z : Int} (h : IntV w neg A n c z) (hz : z.natAbs < 18446744073709551616) : n ≤ 2 := h.len (k := 2) (by omega)
set_option maxHeartbeats 400000 in
theorem Normalize_any {w0 w : World} {na : Bool} {A : Option Addr} {n c : Nat} {x : Int} (ha : IntV w0 na A n c x) (h1 : n ≤ 1099511627776) [hx : Ext w0 w] :
    Calls Tryz.prog 139 #[.agg #[.bool na, .slice A n c]] w (RetInt w x) := by
  have HE := Lib.hid (show sgn na (x.natAbs : Int) = x by rw [ha.neg_eq]; unfold sgn; split <;> simp_all <;> omega)
  go_enter Tryz.func139, Tryz.ntmps139
  go_wp2
  go_region_held3 (fun w' => w'.cell? ⟨w.heap.size, 0, none⟩ = some (.bool na) ∧ w'.cell? ⟨w.heap.size, 1, none⟩ = some (.slice A n c)) (exact box1 w _ _ _ 158)
    (first
      | (go_at_call 170; refine (trimV_any ha).mono ?_; rintro e w' ⟨rfl, rfl⟩)
      | (go_at_call 181; refine (cloneN_any ha.nat h1).mono ?_; intro e w3 hr; obtain ⟨B3, n3, d3, rfl, hn3, hs3⟩ := NatV.of_ret hr; clear hr)
      | (go_at_call 168; refine (buildN_any na hn3).mono ?_; rintro e w2 ⟨g, B2, k2, d2, rfl, hz, hs2⟩; obtain ⟨q0, q1, q2, q3, q4, q5⟩ := box2_1 w w2 (.cells #[.bool na, .slice A n c] 158) (.bool false) (.slice none 0 0) 158))
  have Q0 := Lib.hid q0
  clear q0
  go_wp2
  exact bodyPost_ret (v := .agg #[.bool g, .slice B2 k2 d2]) (by simp [results, Tryz.results139, go_sem, q1, q2]) rfl ⟨_, _, _, _, rfl, hz.boxedN HE.out (by decide) Q0.out _ _, Step.of _ _⟩

/-- The entries of a matrix. -/
def ent (m : List (List Int)) (i j : Nat) : Int := (m.getD i []).getD j 0
theorem ent_of {m : List (List Int)} {i j : Nat} {r : List Int} {x : Int} (hr : m[i]? = some r) (hx : r[j]? = some x) : ent m i j = x := by
  simp [ent, List.getD, hr, hx]
/-- An entry in memory. -/
theorem MatV.ent_ {w : World} {A : Option Addr} {m : List (List Int)} (h : MatV w A m) {n i j : Nat} (hn : AllLen m n) (hi : i < m.length) (hj : j < n) :
    ∃ b o b1 o1 c g B k d, A = some ⟨b, o, none⟩ ∧ w.cell? ⟨b, o + i, none⟩ = some (.slice (some ⟨b1, o1, none⟩) n c) ∧ w.cell? ⟨b1, o1 + j * 2, none⟩ = some (.bool g) ∧ w.cell? ⟨b1, o1 + j * 2 + 1, none⟩ = some (.slice B k d) ∧ IntV w g B k d (ent m i j) ∧ n ≤ c ∧ c ≤ 9223372036854775807 ∧ b < w.heap.size ∧ b1 < w.heap.size := by
  have hr : m[i]? = some m[i] := by simp
  have hl : m[i].length = n := hn _ (List.getElem_mem hi)
  obtain ⟨b, o, B0, c, hA, hc, hI, h1, h2, hb⟩ := h.at_ hr
  obtain ⟨b1, o1, g, B, k, d, rfl, c1, c2, hV, hb1⟩ := hI.at_ (i := j) (by omega)
  have he : ent m i j = m[i][j]'(by omega) := ent_of hr (by simp)
  rw [he]
  rw [hl] at hc h1
  exact ⟨b, o, b1, o1, c, g, B, k, d, hA, hc, c1, c2, hV, h1, h2, hb, hb1⟩

set_option maxHeartbeats 400000 in
theorem Stages1_any {w0 w : World} {A : Option Addr} {c : Nat} {m : List (List Int)} {pb n : Nat} (h : MatV w0 A m) (hn : AllLen m n) (i j : Nat) (hi : i < m.length) (hj : j < n) (hlen : (ent m i j).natAbs < 18446744073709551616)
    (hp : w.cell? ⟨pb, 0, none⟩ = some (.slice A m.length c)) (hpb : pb < w.heap.size) [hx : Ext w0 w] :
    Calls Tryz.prog 138 #[.int .i64 i, .int .i64 j, .pointer (some ⟨pb, 0, none⟩)] w (RetInt w (ent m i j)) := by
  obtain ⟨b, o, b1, o1, c1, g, B, k, d, rfl, e1, e2, e3, hV, e4, e5, e6, e7⟩ := (h.ext hx).ent_ hn hi hj
  have hk := hV.len2 hlen
  go_enter Tryz.func138, Tryz.ntmps138
  go_wp2_with fail
  refine (Normalize_any hV (by omega)).mono ?_
  rintro e w2 ⟨g2, B2, k2, d2, rfl, hz, hs2⟩
  obtain ⟨q0, q1, q2, q3, q4, q5⟩ := box2 w w2 (.bool false) (.slice none 0 0) 158
  have Q0 := Lib.hid q0
  clear q0
  go_wp2
  exact bodyPost_ret (v := .agg #[.bool g2, .slice B2 k2 d2]) (by simp [results, Tryz.results138, go_sem, q1, q2]) rfl ⟨_, _, _, _, rfl, hz.boxed (by decide) Q0.out _ _, Step.of _ _⟩

theorem square_ok {w0 w : World} {A : Option Addr} {c : Nat} {m : List (List Int)} (h : MatV w0 A m) (h1 : 1 ≤ m.length) (h2 : m.length ≤ 16) (hn : AllLen m m.length) [hx : Ext w0 w] :
    Calls Tryz.prog 136 #[.slice A m.length c] w (RetSame w (.tuple #[.int .i64 m.length, .bool true])) := by
  go_enter Tryz.func136, Tryz.ntmps136
  go_wp2_with (go_at_call 180; refine (Shape_ok h m.length h1 h2 h1 h2 hn).mono ?_; rintro e w' ⟨rfl, rfl⟩)
  go_ret2
  exact ⟨rfl, rfl⟩
end Go.Proofs.YtaaldapmkhamlaaGreat

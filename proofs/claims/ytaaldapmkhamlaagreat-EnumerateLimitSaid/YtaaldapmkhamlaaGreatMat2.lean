/-
  Contracts of the program's package matrix: build, FromInts, ToInts, Shape.
-/
import Derived.Test.YtaaldapmkhamlaaGreatMat
namespace Go.Proofs.YtaaldapmkhamlaaGreat
open Go.RowKit
/-- The rows of a function of two indexes. -/
def tab (F : Nat → Nat → Int) (rows cols : Nat) : List (List Int) := (List.range rows).map fun i => (List.range cols).map fun j => F i j
theorem tab_get (F : Nat → Nat → Int) (rows cols i : Nat) (hi : i < rows) : (tab F rows cols)[i]? = some ((List.range cols).map fun j => F i j) := by simp [tab, hi]
theorem tab_length (F : Nat → Nat → Int) (rows cols : Nat) : (tab F rows cols).length = rows := by simp [tab]
/-- A matrix is returned. -/
def RetMat (w : World) (m : List (List Int)) (e : Ending) (w' : World) : Prop := ∃ A c, e = .returned (.slice A m.length c) ∧ MatV w' A m ∧ m.length ≤ c ∧ c ≤ 9223372036854775807 ∧ Step w w'

/-- The headers of the rows: the first k are there. -/
def Heads (w : World) (G : Nat) (F : Nat → Nat → Int) (rows cols k : Nat) : Prop :=
  ∃ hd : List Value, VRow w G 152 hd ∧ hd.length = rows ∧ (∀ i, i < k → ∃ B, hd[i]? = some (.slice B cols cols) ∧ IntsV w B ((List.range cols).map fun j => F i j)) ∧ ∀ i, k ≤ i → i < rows → hd[i]? = some (.slice none 0 0)
/-- The cells of a row: the first q are there. -/
def Cells2 (w : World) (g : Nat) (F : Nat → Int) (cols q : Nat) : Prop :=
  ∃ cs : List Value, VRow w g 158 cs ∧ cs.length = cols * 2 ∧ (∀ j, j < q → ∃ s B n c, cs[j * 2]? = some (.bool s) ∧ cs[j * 2 + 1]? = some (.slice B n c) ∧ IntV w s B n c (F j)) ∧ ∀ j, q ≤ j → j < cols → cs[j * 2]? = some (.bool false) ∧ cs[j * 2 + 1]? = some (.slice none 0 0)

theorem Heads.made (w : World) (F : Nat → Nat → Int) (rows cols : Nat) : Heads (w.alloc (.cells (mkCells #[.slice none 0 0] (rows * 1)) 152)) w.heap.size F rows cols 0 := by
  refine ⟨_, VRow.new w _ _, ?_, fun i hi => absurd hi (by omega), fun i _ hi => ?_⟩
  · rw [mkCells_size]; omega
  · rw [mkCells_one, Nat.mul_one, List.getElem?_replicate]; simp [hi]
theorem Cells2.made (w : World) (F : Nat → Int) (cols : Nat) : Cells2 (w.alloc (.cells (mkCells #[.bool false, .slice none 0 0] (cols * 2)) 158)) w.heap.size F cols 0 := by
  refine ⟨_, VRow.new w _ _, mkCells_size _ _, fun i hi => absurd hi (by omega), fun j _ hj => ⟨?_, ?_⟩⟩
  · rw [mkCells_get _ _ _ (by omega) (by simp)]; simp
  · rw [mkCells_get _ _ _ (by omega) (by simp)]; simp
theorem Cells2.full {w : World} {g : Nat} {F : Nat → Int} {cols : Nat} (h : Cells2 w g F cols cols) : IntsV w (some ⟨g, 0, none⟩) ((List.range cols).map F) := by
  obtain ⟨cs, h1, h2, h3, h4⟩ := h
  refine ⟨cs, by simp [h2], h1.arr, fun i z hz => ?_⟩
  have hi : i < cols := by
    rcases Nat.lt_or_ge i cols with hi | hi
    · exact hi
    · rw [List.getElem?_eq_none (by simpa using hi)] at hz; cases hz
  simp [hi] at hz
  subst hz
  exact h3 i hi
theorem Cells2.ext {w w' : World} {g : Nat} {F : Nat → Int} {cols q : Nat} (h : Cells2 w g F cols q) (hx : Ext w w') : Cells2 w' g F cols q := by
  obtain ⟨cs, h1, h2, h3, h4⟩ := h
  refine ⟨cs, h1.ext hx, h2, fun j hj => ?_, h4⟩
  obtain ⟨s, B, n, c, a1, a2, a3⟩ := h3 j hj
  exact ⟨s, B, n, c, a1, a2, a3.ext hx⟩
theorem Cells2.put {w : World} {g : Nat} {F : Nat → Int} {cols q : Nat} (h : Cells2 w g F cols q) (hq : q < cols) {s : Bool} {B : Option Addr} {n c : Nat} (hz : IntV w s B n c (F q)) :
    Cells2 ((w.setCell ⟨g, q * 2, none⟩ (.bool s)).setCell ⟨g, q * 2 + 1, none⟩ (.slice B n c)) g F cols (q + 1) := by
  obtain ⟨cs, h1, h2, h3, h4⟩ := h
  have key : ∀ {s' : Bool} {B' : Option Addr} {n' c' : Nat} {z : Int}, IntV w s' B' n' c' z → IntV ((w.setCell ⟨g, q * 2, none⟩ (.bool s)).setCell ⟨g, q * 2 + 1, none⟩ (.slice B n c)) s' B' n' c' z := fun hz' =>
    (hz'.setCell (p := ⟨g, q * 2, none⟩) h1 (by decide) _).setCell (p := ⟨g, q * 2 + 1, none⟩) (h1.set _ _) (by decide) _
  refine ⟨_, (h1.set (q * 2) (.bool s)).set (q * 2 + 1) (.slice B n c), by simp [h2], fun j hj => ?_, fun j hj1 hj2 => ?_⟩
  · rcases Nat.lt_or_ge j q with hjq | hjq
    · obtain ⟨s', B', n', c', a1, a2, a3⟩ := h3 j hjq
      refine ⟨s', B', n', c', ?_, ?_, key a3⟩
      · rw [List.getElem?_set_ne (by omega), List.getElem?_set_ne (by omega)]; exact a1
      · rw [List.getElem?_set_ne (by omega), List.getElem?_set_ne (by omega)]; exact a2
    · obtain rfl : j = q := by omega
      refine ⟨s, B, n, c, ?_, ?_, key hz⟩
      · rw [List.getElem?_set_ne (by omega), List.getElem?_set_self (by omega)]
      · rw [List.getElem?_set_self (by rw [List.length_set]; omega)]
  · obtain ⟨a1, a2⟩ := h4 j (by omega) hj2
    constructor
    · rw [List.getElem?_set_ne (by omega), List.getElem?_set_ne (by omega)]; exact a1
    · rw [List.getElem?_set_ne (by omega), List.getElem?_set_ne (by omega)]; exact a2
theorem Cells2.cells {w : World} {g : Nat} {F : Nat → Int} {cols q : Nat} (h : Cells2 w g F cols q) (hq : q < cols) :
    w.cell? ⟨g, q * 2, none⟩ = some (.bool false) ∧ w.cell? ⟨g, q * 2 + 1, none⟩ = some (.slice none 0 0) ∧ w.frozen? ⟨g, q * 2, none⟩ = false ∧ w.frozen? ⟨g, q * 2 + 1, none⟩ = false ∧ g < w.heap.size := by
  obtain ⟨cs, h1, h2, h3, h4⟩ := h
  obtain ⟨a1, a2⟩ := h4 q (Nat.le_refl _) hq
  exact ⟨h1.cell a1, h1.cell a2, h1.frozen _, h1.frozen _, h1.lt⟩
theorem Cells2.far {w : World} {g : Nat} {F : Nat → Int} {cols q : Nat} (h : Cells2 w g F cols q) {p : Addr} {cs' : Array Value} {e' : TypeId} {fr : Nat × Nat} (hp : w.heap[p.block]? = some (.cells cs' e' fr)) (hne : 158 ≠ e') (hne' : 237 ≠ e') (u : Value) : Cells2 (w.setCell p u) g F cols q := by
  obtain ⟨cs, h1, h2, h3, h4⟩ := h
  have hg : g ≠ p.block := fun hh => by
    rw [← hh] at hp
    unfold VRow at h1
    rw [h1] at hp
    injection hp with hp
    injection hp with _ he
    exact hne he
  refine ⟨cs, h1.far hg u, h2, fun j hj => ?_, h4⟩
  obtain ⟨s', B', n', c', a1, a2, a3⟩ := h3 j hj
  exact ⟨s', B', n', c', a1, a2, a3.setCell hp hne' u⟩

theorem size_setCell (w : World) (p : Addr) (u : Value) : (w.setCell p u).heap.size = w.heap.size := by simp [World.setCell]
set_option maxRecDepth 10000 in
set_option maxHeartbeats 1000000 in
theorem buildInt_any {w : World} (f : FuncId) (caps : Array Value) (rows cols : Nat) (h1 : rows ≤ 1000000) (h2 : cols ≤ 1000000) (hf : IsFn f) (F : Nat → Nat → Int)
    (H : ∀ (i j : Nat) (W : World), i < rows → j < cols → Ext w W → Calls Tryz.prog f (#[.int .i64 i, .int .i64 j] ++ caps) W (RetInt W (F i j))) :
    Calls Tryz.prog 134 #[.int .i64 rows, .int .i64 cols, .func (.func f) #[] caps] w (RetMat w (tab F rows cols)) := by
  have hmk := run_make_any (P := Tryz.prog) Tryz.underlying160 infoSlInt (by omega) (rows : Int) (by omega) (by omega)
  have hmk2 := run_make_any (P := Tryz.prog) Tryz.underlying152 infoInt (by omega) (cols : Int) (by omega) (by omega)
  have HH := Lib.hid H
  have HF := Lib.hid hf
  clear H hf
  go_enter Tryz.func134, Tryz.ntmps134
  go_wp2
  go_loopw [8, 9, 14] (fun _ _ i wr => ∃ k : Nat, k ≤ rows ∧ i = .int .i64 k ∧ Heads wr w.heap.size F rows cols k ∧ Ext w wr) (fun _ _ i _ => rows - (intOf i).toNat)
  case atStart => exact ⟨0, by omega, rfl, by simpa [Value.cells] using Heads.made w F rows cols, inferInstance⟩
  case round =>
    obtain ⟨k, hk, rfl, hH, hxr⟩ := hrel
    by_cases hlt' : k < rows
    · obtain ⟨hd, v1, v2, v3, v4⟩ := hH
      have hc1 := v1.cell (v4 k (Nat.le_refl _) hlt')
      have hc2 := v1.frozen k
      have hsz := v1.lt
      obtain ⟨wo, rfl⟩ : ∃ wo : World, wo = wr := ⟨_, rfl⟩
      have V2 := Lib.hid v2
      have V3 := Lib.hid v3
      have V4 := Lib.hid v4
      clear v2 v3 v4
      go_wp2
      go_loopw [9, 27] (fun _ j wr => ∃ q : Nat, q ≤ cols ∧ j = .int .i64 q ∧ Grow w.heap.size 152 wo wr ∧ VRow wr w.heap.size 152 (hd.set k (.slice (some ⟨wo.heap.size, 0, none⟩) cols cols)) ∧ Cells2 wr wo.heap.size (F k) cols q ∧ Ext w wr) (fun _ j _ => cols - (intOf j).toNat)
      case atStart =>
        refine ⟨0, by omega, rfl, ?_, ?_, ?_, ?_⟩
        · exact ((Grow.refl _ _ _).setOld (p := ⟨w.heap.size, k, none⟩) v1 (Nat.le_refl _) rfl _).alloc hxr.size _
        · exact (v1.set _ _).ext inferInstance
        · have := Cells2.made (wo.setCell ⟨w.heap.size, k, none⟩ (.slice (some ⟨wo.heap.size, 0, none⟩) cols cols)) (F k) cols
          rwa [size_setCell] at this
        · exact inferInstance
      case round =>
        obtain ⟨q, hq, rfl, hG, hV, hC, hxq⟩ := hrel
        by_cases hlt : q < cols
        · have hkl : k < hd.length := by have := V2.out; omega
          have hrow : wr.cell? ⟨w.heap.size, k, none⟩ = some (.slice (some ⟨wo.heap.size, 0, none⟩) cols cols) := hV.cell (by rw [List.getElem?_set_self hkl])
          obtain ⟨c1, c2, c3, c4, c5⟩ := hC.cells hlt
          go_wp2
          have hcf := HF.out
          unfold IsFn at hcf
          have hne : w.heap.size ≠ wo.heap.size := by omega
          have hself : (hd.set k (.slice (some ⟨wo.heap.size, 0, none⟩) cols cols))[k]? = some (.slice (some ⟨wo.heap.size, 0, none⟩) cols cols) := by rw [List.getElem?_set_self hkl]
          have HN := Lib.hid hne
          have HS := Lib.hid hself
          clear hne hself
          go_region_held3 (fun w' => w'.cell? ⟨w.heap.size, k, none⟩ = some (.slice (some ⟨wo.heap.size, 0, none⟩) cols cols))
            (first
              | exact (hV.ext inferInstance).cell HS.out
              | exact (((hV.ext inferInstance).far (p := ⟨wo.heap.size, q * 2, none⟩) HN.out _).far (p := ⟨wo.heap.size, q * 2 + 1, none⟩) HN.out _).cell HS.out)
            (first
              | (refine (HH.out _ _ _ hlt' hlt inferInstance).mono ?_; rintro e w2 ⟨g, B, k', d, rfl, hz, hs2⟩; obtain ⟨d1, d2, d3, d4, d5⟩ := (hC.ext (inferInstance : Ext wr w2)).cells hlt))
          go_wp2
          refine ⟨⟨q + 1, by omega, by go_num, ?_, ?_, ?_, ?_⟩, by simp [intOf] <;> omega⟩
          · exact ((hG.trans (inferInstance : Ext wr w2) hxr.size).setNew (p := ⟨wo.heap.size, q * 2, none⟩) (Nat.le_refl _) hxr.size _).setNew (p := ⟨wo.heap.size, q * 2 + 1, none⟩) (Nat.le_refl _) hxr.size _
          · exact ((hV.ext (inferInstance : Ext wr w2)).far (p := ⟨wo.heap.size, q * 2, none⟩) HN.out _).far (p := ⟨wo.heap.size, q * 2 + 1, none⟩) HN.out _
          · exact (hC.ext (inferInstance : Ext wr w2)).put hlt hz
          · exact ((inferInstance : Ext w w2).setCell (p := ⟨wo.heap.size, q * 2, none⟩) hxr.size _).setCell (p := ⟨wo.heap.size, q * 2 + 1, none⟩) hxr.size _
        · obtain rfl : q = cols := by omega
          have hrowk := hC.full
          go_wp2
          refine ⟨⟨k + 1, by omega, by go_num, ⟨_, hV, by rw [List.length_set]; exact V2.out, fun i hi => ?_, fun i hi1 hi2 => ?_⟩, hxq⟩, by simp [intOf] <;> omega⟩
          · have hkl : k < hd.length := by have := V2.out; omega
            rcases Nat.lt_or_ge i k with h | h
            · obtain ⟨B, b1, b2⟩ := V3.out i h
              exact ⟨B, by rw [List.getElem?_set_ne (by omega)]; exact b1, b2.grow hG (by decide) (by decide)⟩
            · obtain rfl : i = k := by omega
              exact ⟨_, by rw [List.getElem?_set_self hkl], hrowk⟩
          · rw [List.getElem?_set_ne (by omega)]; exact V4.out i (by omega) hi2
    · obtain rfl : k = rows := by omega
      have HHd := Lib.hid hH
      clear hH
      go_wp2
      go_ret
      obtain ⟨hd, v1, v2, v3, v4⟩ := HHd.out
      refine ⟨_, k, by rw [tab_length]; rfl, ⟨hd, by rw [v2, tab_length], v1.arr, fun i r hr => ?_⟩, by rw [tab_length]; omega, by omega, hxr.toStep⟩
      have hi : i < k := by
        rcases Nat.lt_or_ge i k with hi | hi
        · exact hi
        · rw [List.getElem?_eq_none (by rw [tab_length]; exact hi)] at hr; cases hr
      rw [tab_get _ _ _ _ hi] at hr
      injection hr with hr
      subst hr
      obtain ⟨B, b1, b2⟩ := v3 i hi
      exact ⟨B, cols, by simpa using b1, b2, by simp, by omega⟩

/-- A matrix of int64 is returned. -/
def RetMat64 (w : World) (m : List (List Int)) (e : Ending) (w' : World) : Prop := ∃ A c, e = .returned (.slice A m.length c) ∧ Mat64 w' A m ∧ m.length ≤ c ∧ c ≤ 9223372036854775807 ∧ Step w w'
/-- The headers of the rows: the first k are there. -/
def Heads1 (w : World) (G : Nat) (F : Nat → Nat → Int) (rows cols k : Nat) : Prop :=
  ∃ hd : List Value, VRow w G 22 hd ∧ hd.length = rows ∧ (∀ i, i < k → ∃ B, hd[i]? = some (.slice B cols cols) ∧ Ints w B 2 .i64 ((List.range cols).map fun j => F i j)) ∧ ∀ i, k ≤ i → i < rows → hd[i]? = some (.slice none 0 0)
/-- The cells of a row of int64: the first q are there. -/
def Cells1 (w : World) (g : Nat) (F : Nat → Int) (cols q : Nat) : Prop := Row w g 2 .i64 ((List.range q).map F ++ List.replicate (cols - q) 0) ∧ q ≤ cols
theorem Cells1.made (w : World) (F : Nat → Int) (cols : Nat) : Cells1 (w.alloc (.cells (mkCells #[.int .i64 0] (cols * 1)) 2)) w.heap.size F cols 0 := by
  refine ⟨?_, Nat.zero_le _⟩
  have : (mkCells #[.int .i64 0] (cols * 1)) = mkRow cols .i64 := by
    apply Array.ext'
    rw [mkCells_one]; simp [mkRow]
  rw [this]
  simpa using Row.made w cols .i64 2
theorem Cells1.full {w : World} {g : Nat} {F : Nat → Int} {cols : Nat} (h : Cells1 w g F cols cols) : Ints w (some ⟨g, 0, none⟩) 2 .i64 ((List.range cols).map F) := by
  have := h.1.ints
  simpa using this
theorem Cells1.ext {w w' : World} {g : Nat} {F : Nat → Int} {cols q : Nat} (h : Cells1 w g F cols q) (hx : Ext w w') : Cells1 w' g F cols q := ⟨h.1.ext hx, h.2⟩
theorem Cells1.put {w : World} {g : Nat} {F : Nat → Int} {cols q : Nat} (h : Cells1 w g F cols q) (hq : q < cols) : Cells1 (w.setCell ⟨g, q, none⟩ (.int .i64 (F q))) g F cols (q + 1) := by
  refine ⟨?_, hq⟩
  have := h.1.fill (by omega) (show ((List.range q).map F).length = q by simp) (F q)
  rw [List.range_succ, List.map_append, show cols - (q + 1) = cols - q - 1 by omega]
  exact this
theorem Cells1.cells {w : World} {g : Nat} {F : Nat → Int} {cols q : Nat} (h : Cells1 w g F cols q) (hq : q < cols) :
    w.cell? ⟨g, q, none⟩ = some (.int .i64 0) ∧ w.frozen? ⟨g, q, none⟩ = false ∧ g < w.heap.size := by
  obtain ⟨x, hx, hc⟩ := h.1.cell (i := q) (by simp; omega)
  rw [List.getElem?_append_right (by simp)] at hx
  have hx0 : x = 0 := List.eq_of_mem_replicate (List.mem_of_getElem? hx)
  subst hx0
  exact ⟨hc, h.1.frozen _, h.1.lt⟩
theorem Heads1.made (w : World) (F : Nat → Nat → Int) (rows cols : Nat) : Heads1 (w.alloc (.cells (mkCells #[.slice none 0 0] (rows * 1)) 22)) w.heap.size F rows cols 0 := by
  refine ⟨_, VRow.new w _ _, ?_, fun i hi => absurd hi (by omega), fun i _ hi => ?_⟩
  · rw [mkCells_size]; omega
  · rw [mkCells_one, Nat.mul_one, List.getElem?_replicate]; simp [hi]
set_option maxRecDepth 10000 in
set_option maxHeartbeats 1000000 in
theorem buildI64_any {w : World} (f : FuncId) (caps : Array Value) (rows cols : Nat) (h1 : rows ≤ 1000000) (h2 : cols ≤ 1000000) (hf : IsFn f) (F : Nat → Nat → Int)
    (H : ∀ (i j : Nat) (W : World), i < rows → j < cols → Ext w W → Calls Tryz.prog f (#[.int .i64 i, .int .i64 j] ++ caps) W (RetVal W (.int .i64 (F i j)))) :
    Calls Tryz.prog 144 #[.int .i64 rows, .int .i64 cols, .func (.func f) #[] caps] w (RetMat64 w (tab F rows cols)) := by
  have hmk := run_make_any (P := Tryz.prog) Tryz.underlying23 infoSlI64 (by omega) (rows : Int) (by omega) (by omega)
  have hmk2 := run_make_any (P := Tryz.prog) Tryz.underlying22 infoI64 (by omega) (cols : Int) (by omega) (by omega)
  have HH := Lib.hid H
  have HF := Lib.hid hf
  clear H hf
  go_enter Tryz.func144, Tryz.ntmps144
  go_wp2
  go_loopw [8, 9, 14] (fun _ _ i wr => ∃ k : Nat, k ≤ rows ∧ i = .int .i64 k ∧ Heads1 wr w.heap.size F rows cols k ∧ Ext w wr) (fun _ _ i _ => rows - (intOf i).toNat)
  case atStart => exact ⟨0, by omega, rfl, by simpa [Value.cells] using Heads1.made w F rows cols, inferInstance⟩
  case round =>
    obtain ⟨k, hk, rfl, hH, hxr⟩ := hrel
    by_cases hlt' : k < rows
    · obtain ⟨hd, v1, v2, v3, v4⟩ := hH
      have hc1 := v1.cell (v4 k (Nat.le_refl _) hlt')
      have hc2 := v1.frozen k
      have hsz := v1.lt
      obtain ⟨wo, rfl⟩ : ∃ wo : World, wo = wr := ⟨_, rfl⟩
      have V2 := Lib.hid v2
      have V3 := Lib.hid v3
      have V4 := Lib.hid v4
      clear v2 v3 v4
      go_wp2
      go_loopw [9, 27] (fun _ j wr => ∃ q : Nat, q ≤ cols ∧ j = .int .i64 q ∧ Grow w.heap.size 22 wo wr ∧ VRow wr w.heap.size 22 (hd.set k (.slice (some ⟨wo.heap.size, 0, none⟩) cols cols)) ∧ Cells1 wr wo.heap.size (F k) cols q ∧ Ext w wr) (fun _ j _ => cols - (intOf j).toNat)
      case atStart =>
        refine ⟨0, by omega, rfl, ?_, ?_, ?_, ?_⟩
        · exact ((Grow.refl _ _ _).setOld (p := ⟨w.heap.size, k, none⟩) v1 (Nat.le_refl _) rfl _).alloc hxr.size _
        · exact (v1.set _ _).ext inferInstance
        · have := Cells1.made (wo.setCell ⟨w.heap.size, k, none⟩ (.slice (some ⟨wo.heap.size, 0, none⟩) cols cols)) (F k) cols
          rw [size_setCell, Nat.mul_one] at this; exact this
        · exact inferInstance
      case round =>
        obtain ⟨q, hq, rfl, hG, hV, hC, hxq⟩ := hrel
        by_cases hlt : q < cols
        · have hkl : k < hd.length := by have := V2.out; omega
          have hrow : wr.cell? ⟨w.heap.size, k, none⟩ = some (.slice (some ⟨wo.heap.size, 0, none⟩) cols cols) := hV.cell (by rw [List.getElem?_set_self hkl])
          obtain ⟨c1, c2, c3⟩ := hC.cells hlt
          go_wp2
          have hcf := HF.out
          unfold IsFn at hcf
          have hne : w.heap.size ≠ wo.heap.size := by omega
          have hself : (hd.set k (.slice (some ⟨wo.heap.size, 0, none⟩) cols cols))[k]? = some (.slice (some ⟨wo.heap.size, 0, none⟩) cols cols) := by rw [List.getElem?_set_self hkl]
          have HN := Lib.hid hne
          have HS := Lib.hid hself
          clear hne hself
          go_region_held3 (fun w' => w'.cell? ⟨w.heap.size, k, none⟩ = some (.slice (some ⟨wo.heap.size, 0, none⟩) cols cols))
            (first
              | exact (hV.ext inferInstance).cell HS.out
              | exact ((hV.ext inferInstance).far (p := ⟨wo.heap.size, q, none⟩) HN.out _).cell HS.out)
            (first
              | (refine (HH.out _ _ _ hlt' hlt inferInstance).mono ?_; rintro e w2 ⟨rfl, hs2⟩; obtain ⟨d1, d2, d3⟩ := (hC.ext (inferInstance : Ext wr w2)).cells hlt))
          go_wp2
          refine ⟨⟨q + 1, by omega, by go_num, ?_, ?_, ?_, ?_⟩, by simp [intOf] <;> omega⟩
          · exact (hG.trans (inferInstance : Ext wr w2) hxr.size).setNew (p := ⟨wo.heap.size, q, none⟩) (Nat.le_refl _) hxr.size _
          · exact (hV.ext (inferInstance : Ext wr w2)).far (p := ⟨wo.heap.size, q, none⟩) HN.out _
          · exact (hC.ext (inferInstance : Ext wr w2)).put hlt
          · exact (inferInstance : Ext w w2).setCell (p := ⟨wo.heap.size, q, none⟩) hxr.size _
        · obtain rfl : q = cols := by omega
          have hrowk := hC.full
          go_wp2
          refine ⟨⟨k + 1, by omega, by go_num, ⟨_, hV, by rw [List.length_set]; exact V2.out, fun i hi => ?_, fun i hi1 hi2 => ?_⟩, hxq⟩, by simp [intOf] <;> omega⟩
          · have hkl : k < hd.length := by have := V2.out; omega
            rcases Nat.lt_or_ge i k with h | h
            · obtain ⟨B, b1, b2⟩ := V3.out i h
              exact ⟨B, by rw [List.getElem?_set_ne (by omega)]; exact b1, b2.grow hG (by decide)⟩
            · obtain rfl : i = k := by omega
              exact ⟨_, by rw [List.getElem?_set_self hkl], hrowk⟩
          · rw [List.getElem?_set_ne (by omega)]; exact V4.out i (by omega) hi2
    · obtain rfl : k = rows := by omega
      have HHd := Lib.hid hH
      clear hH
      go_wp2
      go_ret
      obtain ⟨hd, v1, v2, v3, v4⟩ := HHd.out
      refine ⟨_, k, by rw [tab_length]; rfl, ⟨hd, by rw [v2, tab_length], v1.arr, fun i r hr => ?_⟩, by rw [tab_length]; omega, by omega, hxr.toStep⟩
      have hi : i < k := by
        rcases Nat.lt_or_ge i k with hi | hi
        · exact hi
        · rw [List.getElem?_eq_none (by rw [tab_length]; exact hi)] at hr; cases hr
      rw [tab_get _ _ _ _ hi] at hr
      injection hr with hr
      subst hr
      obtain ⟨B, b1, b2⟩ := v3 i hi
      exact ⟨B, cols, by simpa using b1, b2, by simp, by omega⟩

/-- All rows have n entries. -/
def AllLen (m : List (List Int)) (n : Nat) : Prop := ∀ r ∈ m, r.length = n
set_option maxHeartbeats 400000 in
theorem shapeI64_ok {w0 w : World} {A : Option Addr} {c : Nat} {m : List (List Int)} (h : Mat64 w0 A m) (n : Nat) (h1 : 1 ≤ m.length) (h2 : m.length ≤ 16) (h3 : 1 ≤ n) (h4 : n ≤ 16) (hn : AllLen m n) [hx : Ext w0 w] :
    Calls Tryz.prog 133 #[.slice A m.length c] w (RetSame w (.tuple #[.int .i64 m.length, .int .i64 n, .bool true])) := by
  have h0 := h.ext hx
  have hg : ∀ (i : Nat) (r : List Int), m[i]? = some r → r.length = n := fun i r hr => hn r (List.mem_of_getElem? hr)
  obtain ⟨b, o, B, c0, rfl, hc0, -, -, -, hb⟩ := h0.at_ (i := 0) (r := m[0]) (by simp)
  rw [hg 0 m[0] (by simp)] at hc0
  simp only [Nat.add_zero] at hc0
  have HG := Lib.hid hg
  clear hg hn
  have hd1 : decide ((m.length : Int) < 1) = false := by simp; omega
  have hd2 : decide ((16 : Int) < (m.length : Int)) = false := by simp; omega
  have hd3 : decide ((n : Int) < 1) = false := by simp; omega
  have hd4 : decide ((16 : Int) < (n : Int)) = false := by simp; omega
  go_enter Tryz.func133, Tryz.ntmps133
  go_wp2
  go_loop [7, 28] (fun _ i => ∃ k : Nat, k ≤ m.length ∧ i = .int .i64 k) (fun _ i => m.length - (intOf i).toNat)
  case atStart => exact ⟨0, by omega, rfl⟩
  case round =>
    obtain ⟨k, hk, rfl⟩ := hrel
    by_cases hlt : k < m.length
    · obtain ⟨b', o', B', c', hh, hc, -, -, -, -⟩ := h0.at_ (i := k) (r := m[k]) (by simp [hlt])
      injection hh with hh
      injection hh with e1 e2
      subst e1 e2
      rw [HG.out k m[k] (by simp [hlt])] at hc
      go_wp2
      exact ⟨⟨k + 1, by omega, by go_num⟩, by simp [intOf] <;> omega⟩
    · go_wp2
      go_ret3
      exact ⟨rfl, rfl⟩

set_option maxHeartbeats 400000 in
theorem FromInts1_any {w0 w : World} {A : Option Addr} {c : Nat} {m : List (List Int)} {pb : Nat} (h : Mat64 w0 A m) (i j : Nat) (r : List Int) (x : Int) (hr : m[i]? = some r) (hxr : r[j]? = some x) (hx0 : -9223372036854775808 ≤ x) (hx1 : x ≤ 9223372036854775807)
    (hp : w.cell? ⟨pb, 0, none⟩ = some (.slice A m.length c)) (hpb : pb < w.heap.size) [hx : Ext w0 w] :
    Calls Tryz.prog 135 #[.int .i64 i, .int .i64 j, .pointer (some ⟨pb, 0, none⟩)] w (RetInt w x) := by
  have h0 := h.ext hx
  obtain ⟨b, o, B, c0, rfl, hc0, hI, hc1, hc2, hb⟩ := h0.at_ hr
  have hi : i < m.length := (List.getElem?_eq_some_iff.1 hr).1
  have hj : j < r.length := (List.getElem?_eq_some_iff.1 hxr).1
  obtain ⟨b1, o1, x1, rfl, hx2, hc3, hb1⟩ := hI.at_ hj
  have hxx : x1 = x := by rw [hx2] at hxr; injection hxr
  subst hxx
  clear hx2 hxr hr
  go_enter Tryz.func135, Tryz.ntmps135
  go_wp2_with fail
  refine (Small_any x1 hx0 hx1 _).mono ?_
  rintro e w2 ⟨g, B2, k2, d2, rfl, hz, hs2⟩
  obtain ⟨q0, q1, q2, q3, q4, q5⟩ := box2 w w2 (.bool false) (.slice none 0 0) 158
  have Q0 := Lib.hid q0
  clear q0
  go_wp2
  exact bodyPost_ret (v := .agg #[.bool g, .slice B2 k2 d2]) (by simp [results, Tryz.results135, go_sem, q1, q2]) rfl ⟨_, _, _, _, rfl, hz.boxed (by decide) Q0.out _ _, Step.of _ _⟩

/-- All entries fit in an int64. -/
def Fits64 (m : List (List Int)) : Prop := ∀ r ∈ m, ∀ x ∈ r, -9223372036854775808 ≤ x ∧ x ≤ 9223372036854775807
/-- A matrix and a bool are returned. -/
def RetMatB (w : World) (m : List (List Int)) (b : Bool) (e : Ending) (w' : World) : Prop := ∃ A c, e = .returned (.tuple #[.slice A m.length c, .bool b]) ∧ MatV w' A m ∧ m.length ≤ c ∧ c ≤ 9223372036854775807 ∧ Step w w'
theorem tab_eq (m : List (List Int)) (n : Nat) (hn : AllLen m n) : tab (fun i j => (m.getD i []).getD j 0) m.length n = m := by
  apply List.ext_getElem?
  intro i
  rcases Nat.lt_or_ge i m.length with hi | hi
  · rw [tab_get _ _ _ _ hi]
    have hr : m[i]? = some m[i] := by simp
    rw [hr]
    congr 1
    have hl : m[i].length = n := hn _ (List.getElem_mem hi)
    apply List.ext_getElem?
    intro j
    rcases Nat.lt_or_ge j n with hj | hj
    · simp [hj, hi, List.getD, hl]
    · rw [List.getElem?_eq_none (by simpa using hj), List.getElem?_eq_none (by omega)]
  · rw [List.getElem?_eq_none (by rw [tab_length]; exact hi), List.getElem?_eq_none hi]
theorem isFn_FromInts1 : IsFn 135 := isFn_of Tryz.func135 (by kernel_rfl) (by kernel_rfl)

set_option maxHeartbeats 400000 in
theorem FromInts_ok {w0 w : World} {A : Option Addr} {c : Nat} {m : List (List Int)} (h : Mat64 w0 A m) (n : Nat) (h1 : 1 ≤ m.length) (h2 : m.length ≤ 16) (h3 : 1 ≤ n) (h4 : n ≤ 16) (hn : AllLen m n) (h64 : Fits64 m) [hx : Ext w0 w] :
    Calls Tryz.prog 98 #[.slice A m.length c] w (RetMatB w m true) := by
  have hb := buildInt_any (w := w.alloc (.cells #[.slice A m.length c] 23)) 135 #[.pointer (some ⟨w.heap.size, 0, none⟩)] m.length n (by omega) (by omega) isFn_FromInts1 (fun i j => (m.getD i []).getD j 0)
    (fun i j W hi hj hW => by
      have hr : m[i]? = some m[i] := by simp
      have hl : m[i].length = n := hn _ (List.getElem_mem hi)
      have hxj : m[i][j]? = some (m[i][j]'(by omega)) := by simp
      have hfit := h64 m[i] (List.getElem_mem hi) _ (List.getElem_mem (by omega : j < m[i].length))
      have e1 : (m.getD i []).getD j 0 = m[i][j]'(by omega) := by simp [List.getD, hi, hxj]
      rw [e1]
      have hcell : W.cell? ⟨w.heap.size, 0, none⟩ = some (.slice A m.length c) := by
        have := heap_of_ext hW (heap_alloc_new w _)
        simp [World.cell?, this]
      have hsz : w.heap.size < W.heap.size := lt_of_heap (heap_of_ext hW (heap_alloc_new w _))
      have : Ext w W := Ext.trans inferInstance hW
      have : Ext w0 W := hx.trans this
      exact FromInts1_any h i j m[i] _ hr hxj hfit.1 hfit.2 hcell hsz)
  rw [tab_eq m n hn] at hb
  have HB := Lib.hid hb
  clear hb
  go_enter Tryz.func98, Tryz.ntmps98
  go_wp2_with fail
  refine (shapeI64_ok h n h1 h2 h3 h4 hn).mono ?_
  rintro e w' ⟨rfl, rfl⟩
  go_wp2_with fail
  refine HB.out.mono ?_
  rintro e w2 ⟨A2, c2, rfl, hm, hc1, hc2, hs2⟩
  go_wp2
  go_ret2
  exact ⟨A2, c2, rfl, hm, hc1, hc2, Step.of _ _⟩

set_option maxHeartbeats 400000 in
theorem shapeInt_ok {w0 w : World} {A : Option Addr} {c : Nat} {m : List (List Int)} (h : MatV w0 A m) (n : Nat) (h1 : 1 ≤ m.length) (h2 : m.length ≤ 16) (h3 : 1 ≤ n) (h4 : n ≤ 16) (hn : AllLen m n) [hx : Ext w0 w] :
    Calls Tryz.prog 143 #[.slice A m.length c] w (RetSame w (.tuple #[.int .i64 m.length, .int .i64 n, .bool true])) := by
  have h0 := h.ext hx
  have hg : ∀ (i : Nat) (r : List Int), m[i]? = some r → r.length = n := fun i r hr => hn r (List.mem_of_getElem? hr)
  obtain ⟨b, o, B, c0, rfl, hc0, -, -, -, hb⟩ := h0.at_ (i := 0) (r := m[0]) (by simp)
  rw [hg 0 m[0] (by simp)] at hc0
  simp only [Nat.add_zero] at hc0
  have HG := Lib.hid hg
  clear hg hn
  have hd1 : decide ((m.length : Int) < 1) = false := by simp; omega
  have hd2 : decide ((16 : Int) < (m.length : Int)) = false := by simp; omega
  have hd3 : decide ((n : Int) < 1) = false := by simp; omega
  have hd4 : decide ((16 : Int) < (n : Int)) = false := by simp; omega
  go_enter Tryz.func143, Tryz.ntmps143
  go_wp2
  go_loop [7, 28] (fun _ i => ∃ k : Nat, k ≤ m.length ∧ i = .int .i64 k) (fun _ i => m.length - (intOf i).toNat)
  case atStart => exact ⟨0, by omega, rfl⟩
  case round =>
    obtain ⟨k, hk, rfl⟩ := hrel
    by_cases hlt : k < m.length
    · obtain ⟨b', o', B', c', hh, hc, -, -, -, -⟩ := h0.at_ (i := k) (r := m[k]) (by simp [hlt])
      injection hh with hh
      injection hh with e1 e2
      subst e1 e2
      rw [HG.out k m[k] (by simp [hlt])] at hc
      go_wp2
      exact ⟨⟨k + 1, by omega, by go_num⟩, by simp [intOf] <;> omega⟩
    · go_wp2
      go_ret3
      exact ⟨rfl, rfl⟩


theorem Shape_ok {w0 w : World} {A : Option Addr} {c : Nat} {m : List (List Int)} (h : MatV w0 A m) (n : Nat) (h1 : 1 ≤ m.length) (h2 : m.length ≤ 16) (h3 : 1 ≤ n) (h4 : n ≤ 16) (hn : AllLen m n) [hx : Ext w0 w] :
    Calls Tryz.prog 180 #[.slice A m.length c] w (RetSame w (.tuple #[.int .i64 m.length, .int .i64 n, .bool true])) := by
  go_enter Tryz.func180, Tryz.ntmps180
  go_wp2_with (go_at_call 143; refine (shapeInt_ok h n h1 h2 h3 h4 hn).mono ?_; rintro e w' ⟨rfl, rfl⟩)
  go_ret3
  exact ⟨rfl, rfl⟩

/-- A store of the value that is there changes nothing. -/
theorem setCell_same {w : World} {b i : Nat} {v : Value} (h : w.cell? ⟨b, i, none⟩ = some v) : w.setCell ⟨b, i, none⟩ v = w := by
  unfold World.cell? at h
  unfold World.setCell
  have : (w.heap.modify b fun x => match x with
      | .cells c elem frozen => .cells (if (none : Option Nat).isSome then c else c.setIfInBounds i v) elem frozen
      | o => o) = w.heap := by
    apply Array.ext_getElem?
    intro k
    rw [Array.getElem?_modify]
    split
    · rename_i hk
      subst hk
      cases hb : w.heap[b]? with
      | none => simp
      | some o =>
        simp only [hb] at h
        cases o with
        | cells cs e fr =>
          simp at h
          simp only [Option.map_some, Option.isSome_none, Bool.false_eq_true, if_false]
          congr 2
          apply Array.ext_getElem?
          intro q
          rw [Array.getElem?_setIfInBounds]
          split
          · rename_i hq
            subst hq
            obtain ⟨hlt, hv⟩ := Array.getElem?_eq_some_iff.1 h
            simp [hlt, hv]
          · rfl
        | _ => simp at h
    · rfl
  exact (congrArg (fun hp => ({ w with heap := hp } : World)) this).trans rfl

set_option maxHeartbeats 400000 in
theorem ToInts1_any {w0 w : World} {A : Option Addr} {c : Nat} {m : List (List Int)} {pb ob : Nat} (h : MatV w0 A m) (i j : Nat) (r : List Int) (x : Int) (hr : m[i]? = some r) (hxr : r[j]? = some x) (hx0 : -9223372036854775808 ≤ x) (hx1 : x ≤ 9223372036854775807)
    (hp : w.cell? ⟨pb, 0, none⟩ = some (.slice A m.length c)) (ho : w.cell? ⟨ob, 0, none⟩ = some (.bool true)) (hob : ob < w.heap.size) (hof : w.frozen? ⟨ob, 0, none⟩ = false) [hx : Ext w0 w] :
    Calls Tryz.prog 145 #[.int .i64 i, .int .i64 j, .pointer (some ⟨pb, 0, none⟩), .pointer (some ⟨ob, 0, none⟩)] w (RetVal w (.int .i64 x)) := by
  have h0 := h.ext hx
  obtain ⟨b, o, B, c0, rfl, hc0, hI, hc1, hc2, hb⟩ := h0.at_ hr
  have hi : i < m.length := (List.getElem?_eq_some_iff.1 hr).1
  have hj : j < r.length := (List.getElem?_eq_some_iff.1 hxr).1
  obtain ⟨b1, o1, g1, B1, n1, c1, rfl, hd1, hd2, hV, hb1⟩ := hI.at_ hj
  have hxx : r[j] = x := (List.getElem?_eq_some_iff.1 hxr).2
  rw [hxx] at hV
  clear hxx hxr hr
  go_enter Tryz.func145, Tryz.ntmps145
  go_wp2_with fail
  refine (Int64_fit hV hx0 hx1).mono ?_
  rintro e w2 ⟨rfl, hs2⟩
  have hx2 : Ext w w2 := hs2.ext
  have ho2 : w2.cell? ⟨ob, 0, none⟩ = some (.bool true) := (hx2.below.cell (p := ⟨ob, 0, none⟩) hob).trans ho
  have hf2 : w2.frozen? ⟨ob, 0, none⟩ = false := (hx2.below.frozen (p := ⟨ob, 0, none⟩) hob).trans hof
  have hsame := Lib.hid (setCell_same ho2)
  go_wp2
  go_ret
  refine ⟨rfl, ?_⟩
  rw [hsame.out]
  exact hs2
theorem isFn_ToInts1 : IsFn 145 := isFn_of Tryz.func145 (by kernel_rfl) (by kernel_rfl)
/-- A matrix of int64 and a bool are returned. -/
def RetMat64B (w : World) (m : List (List Int)) (b : Bool) (e : Ending) (w' : World) : Prop := ∃ A c, e = .returned (.tuple #[.slice A m.length c, .bool b]) ∧ Mat64 w' A m ∧ m.length ≤ c ∧ c ≤ 9223372036854775807 ∧ Step w w'
theorem box1At (W w' : World) (s : Nat) (x : Value) (T : TypeId) (hs : W.heap.size = s) [h : Ext (W.alloc (.cells #[x] T)) w'] :
    w'.heap[s]? = some (.cells #[x] T (0, 0)) ∧ w'.cell? ⟨s, 0, none⟩ = some x ∧ w'.frozen? ⟨s, 0, none⟩ = false ∧ s < w'.heap.size := by
  subst hs
  have h0 : w'.heap[W.heap.size]? = some (.cells #[x] T (0, 0)) := heap_of_ext h (heap_alloc_new W _)
  exact ⟨h0, by simp [World.cell?, h0], by simp [World.frozen?, h0], (Array.getElem?_eq_some_iff.1 h0).1⟩

set_option maxHeartbeats 400000 in
theorem ToInts_ok {w0 w : World} {A : Option Addr} {c : Nat} {m : List (List Int)} (h : MatV w0 A m) (n : Nat) (h1 : 1 ≤ m.length) (h2 : m.length ≤ 16) (h3 : 1 ≤ n) (h4 : n ≤ 16) (hn : AllLen m n) (h64 : Fits64 m) [hx : Ext w0 w] :
    Calls Tryz.prog 100 #[.slice A m.length c] w (RetMat64B w m true) := by
  have hb := buildI64_any (w := (w.alloc (.cells #[.slice A m.length c] 160)).alloc (.cells #[.bool true] 4)) 145 #[.pointer (some ⟨w.heap.size, 0, none⟩), .pointer (some ⟨w.heap.size + 1, 0, none⟩)] m.length n (by omega) (by omega) isFn_ToInts1 (fun i j => (m.getD i []).getD j 0)
    (fun i j W hi hj hW => by
      have hr : m[i]? = some m[i] := by simp
      have hl : m[i].length = n := hn _ (List.getElem_mem hi)
      have hxj : m[i][j]? = some (m[i][j]'(by omega)) := by simp
      have hfit := h64 m[i] (List.getElem_mem hi) _ (List.getElem_mem (by omega : j < m[i].length))
      have e1 : (m.getD i []).getD j 0 = m[i][j]'(by omega) := by simp [List.getD, hi, hxj]
      rw [e1]
      have hW1 : Ext (w.alloc (.cells #[.slice A m.length c] 160)) W := Ext.trans inferInstance hW
      obtain ⟨-, a1, a2, a3⟩ := box1At w W w.heap.size (.slice A m.length c) 160 rfl
      obtain ⟨-, b1, b2, b3⟩ := box1At (w.alloc (.cells #[.slice A m.length c] 160)) W (w.heap.size + 1) (.bool true) 4 (by simp)
      have : Ext w W := Ext.trans inferInstance hW
      have : Ext w0 W := hx.trans this
      exact ToInts1_any h i j m[i] _ hr hxj hfit.1 hfit.2 a1 b1 b3 b2)
  rw [tab_eq m n hn] at hb
  have HB := Lib.hid hb
  clear hb
  go_enter Tryz.func100, Tryz.ntmps100
  go_wp2_with fail
  refine (shapeInt_ok h n h1 h2 h3 h4 hn).mono ?_
  rintro e w' ⟨rfl, rfl⟩
  go_wp2_with fail
  refine HB.out.mono ?_
  rintro e w2 ⟨A2, c2, rfl, hm, hc1, hc2, hs2⟩
  obtain ⟨-, b1, b2, b3⟩ := box1At (w.alloc (.cells #[.slice A m.length c] 160)) w2 (w.heap.size + 1) (.bool true) 4 (by simp)
  go_wp2
  go_ret2
  exact ⟨A2, c2, rfl, hm, hc1, hc2, Step.of _ _⟩
end Go.Proofs.YtaaldapmkhamlaaGreat

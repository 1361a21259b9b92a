/-
  ToInts with rows in new blocks.
-/
import Derived.Test.YtaaldapmkhamlaaGreatMult
namespace Go.Proofs.YtaaldapmkhamlaaGreat
open Go.RowKit
def RetMat64X (w : World) (m : List (List Int)) (e : Ending) (w' : World) : Prop := ∃ A c, e = .returned (.slice A m.length c) ∧ Mat64X w.heap.size w' A m ∧ m.length ≤ c ∧ c ≤ 9223372036854775807 ∧ Step w w'
def RetMat64BX (w : World) (m : List (List Int)) (b : Bool) (e : Ending) (w' : World) : Prop := ∃ A c, e = .returned (.tuple #[.slice A m.length c, .bool b]) ∧ Mat64X w.heap.size w' A m ∧ m.length ≤ c ∧ c ≤ 9223372036854775807 ∧ Step w w'
/-- The headers of the rows: the first k are there; their blocks lie at lo or beyond. -/
def HeadsX (w : World) (lo G : Nat) (F : Nat → Nat → Int) (rows cols k : Nat) : Prop :=
  ∃ hd : List Value, VRow w G 22 hd ∧ hd.length = rows ∧ (∀ i, i < k → ∃ B, hd[i]? = some (.slice B cols cols) ∧ ArrX lo w B 2 (((List.range cols).map fun j => F i j).map (Value.int .i64))) ∧ ∀ i, k ≤ i → i < rows → hd[i]? = some (.slice none 0 0)
theorem HeadsX.made (w : World) (F : Nat → Nat → Int) (rows cols : Nat) : HeadsX (w.alloc (.cells (mkCells #[.slice none 0 0] (rows * 1)) 22)) w.heap.size w.heap.size F rows cols 0 := by
  obtain ⟨hd, h1, h2, h3, h4⟩ := Heads1.made w F rows cols
  exact ⟨hd, h1, h2, fun i hi => absurd hi (by omega), h4⟩
theorem Cells1.fullX {w : World} {g lo : Nat} {F : Nat → Int} {cols : Nat} (h : Cells1 w g F cols cols) (hl : lo ≤ g) : ArrX lo w (some ⟨g, 0, none⟩) 2 (((List.range cols).map F).map (Value.int .i64)) := fun h0 => by
  have h1 := h.1
  rw [Nat.sub_self] at h1
  simp only [List.replicate_zero, List.append_nil] at h1
  exact ⟨g, 0, _, (0, 0), rfl, hl, h1, fun j u hu => by simpa using hu⟩
theorem VRow.arrX {w : World} {g lo : Nat} {e : TypeId} {vs : List Value} (h : VRow w g e vs) (hl : lo ≤ g) : ArrX lo w (some ⟨g, 0, none⟩) e vs := fun _ => ⟨g, 0, _, _, rfl, hl, h, fun j u hu => by simpa using hu⟩
theorem Mat64X.lower {lo lo' : Nat} {w : World} {A : Option Addr} {L : List (List Int)} (h : Mat64X lo w A L) (hl : lo' ≤ lo) : Mat64X lo' w A L := by
  obtain ⟨vs, h1, h2, h3⟩ := h
  refine ⟨vs, h1, h2.lower hl, fun i r hr => ?_⟩
  obtain ⟨B, c, a, b, e⟩ := h3 i r hr
  exact ⟨B, c, a, b.lower hl, e⟩
set_option maxRecDepth 10000 in
set_option maxHeartbeats 1000000 in
theorem buildI64x_any {w : World} (f : FuncId) (caps : Array Value) (rows cols : Nat) (h1 : rows ≤ 1000000) (h2 : cols ≤ 1000000) (hf : IsFn f) (F : Nat → Nat → Int)
    (H : ∀ (i j : Nat) (W : World), i < rows → j < cols → Ext w W → Calls Tryz.prog f (#[.int .i64 i, .int .i64 j] ++ caps) W (RetVal W (.int .i64 (F i j)))) :
    Calls Tryz.prog 144 #[.int .i64 rows, .int .i64 cols, .func (.func f) #[] caps] w (RetMat64X w (tab F rows cols)) := by
  have hmk := run_make_any (P := Tryz.prog) Tryz.underlying23 infoSlI64 (by omega) (rows : Int) (by omega) (by omega)
  have hmk2 := run_make_any (P := Tryz.prog) Tryz.underlying22 infoI64 (by omega) (cols : Int) (by omega) (by omega)
  have HH := Lib.hid H
  have HF := Lib.hid hf
  clear H hf
  go_enter Tryz.func144, Tryz.ntmps144
  go_wp2
  go_loopw [8, 9, 14] (fun _ _ i wr => ∃ k : Nat, k ≤ rows ∧ i = .int .i64 k ∧ HeadsX wr w.heap.size w.heap.size F rows cols k ∧ Ext w wr) (fun _ _ i _ => rows - (intOf i).toNat)
  case atStart => exact ⟨0, by omega, rfl, by simpa [Value.cells] using HeadsX.made w F rows cols, inferInstance⟩
  case round =>
    obtain ⟨k, hk, rfl, hH, hxr⟩ := hrel
    by_cases hlt' : k < rows
    · obtain ⟨hd, v1, v2, v3, v4⟩ := hH
      have hc1 := v1.cell (v4 k (Nat.le_refl _) hlt')
      have hc2 := v1.frozen k
      have hsz := v1.lt
      obtain ⟨wo, rfl⟩ : ∃ wo : World, wo = wr := ⟨_, rfl⟩
      have V2 := Lib.hid v2
      have V3 := Lib.hid v3
      have V4 := Lib.hid v4
      clear v2 v3 v4
      go_wp2
      go_loopw [9, 27] (fun _ j wr => ∃ q : Nat, q ≤ cols ∧ j = .int .i64 q ∧ Grow w.heap.size 22 wo wr ∧ VRow wr w.heap.size 22 (hd.set k (.slice (some ⟨wo.heap.size, 0, none⟩) cols cols)) ∧ Cells1 wr wo.heap.size (F k) cols q ∧ Ext w wr) (fun _ j _ => cols - (intOf j).toNat)
      case atStart =>
        refine ⟨0, by omega, rfl, ?_, ?_, ?_, ?_⟩
        · exact ((Grow.refl _ _ _).setOld (p := ⟨w.heap.size, k, none⟩) v1 (Nat.le_refl _) rfl _).alloc hxr.size _
        · exact (v1.set _ _).ext inferInstance
        · have := Cells1.made (wo.setCell ⟨w.heap.size, k, none⟩ (.slice (some ⟨wo.heap.size, 0, none⟩) cols cols)) (F k) cols
          rw [size_setCell, Nat.mul_one] at this; exact this
        · exact inferInstance
      case round =>
        obtain ⟨q, hq, rfl, hG, hV, hC, hxq⟩ := hrel
        by_cases hlt : q < cols
        · have hkl : k < hd.length := by have := V2.out; omega
          have hrow : wr.cell? ⟨w.heap.size, k, none⟩ = some (.slice (some ⟨wo.heap.size, 0, none⟩) cols cols) := hV.cell (by rw [List.getElem?_set_self hkl])
          obtain ⟨c1, c2, c3⟩ := hC.cells hlt
          go_wp2
          have hcf := HF.out
          unfold IsFn at hcf
          have hne : w.heap.size ≠ wo.heap.size := by omega
          have hself : (hd.set k (.slice (some ⟨wo.heap.size, 0, none⟩) cols cols))[k]? = some (.slice (some ⟨wo.heap.size, 0, none⟩) cols cols) := by rw [List.getElem?_set_self hkl]
          have HN := Lib.hid hne
          have HS := Lib.hid hself
          clear hne hself
          go_region_held3 (fun w' => w'.cell? ⟨w.heap.size, k, none⟩ = some (.slice (some ⟨wo.heap.size, 0, none⟩) cols cols))
            (first
              | exact (hV.ext inferInstance).cell HS.out
              | exact ((hV.ext inferInstance).far (p := ⟨wo.heap.size, q, none⟩) HN.out _).cell HS.out)
            (first
              | (refine (HH.out _ _ _ hlt' hlt inferInstance).mono ?_; rintro e w2 ⟨rfl, hs2⟩; obtain ⟨d1, d2, d3⟩ := (hC.ext (inferInstance : Ext wr w2)).cells hlt))
          go_wp2
          refine ⟨⟨q + 1, by omega, by go_num, ?_, ?_, ?_, ?_⟩, by simp [intOf] <;> omega⟩
          · exact (hG.trans (inferInstance : Ext wr w2) hxr.size).setNew (p := ⟨wo.heap.size, q, none⟩) (Nat.le_refl _) hxr.size _
          · exact (hV.ext (inferInstance : Ext wr w2)).far (p := ⟨wo.heap.size, q, none⟩) HN.out _
          · exact (hC.ext (inferInstance : Ext wr w2)).put hlt
          · exact (inferInstance : Ext w w2).setCell (p := ⟨wo.heap.size, q, none⟩) hxr.size _
        · obtain rfl : q = cols := by omega
          have hrowk := hC.fullX hxr.size
          go_wp2
          refine ⟨⟨k + 1, by omega, by go_num, ⟨_, hV, by rw [List.length_set]; exact V2.out, fun i hi => ?_, fun i hi1 hi2 => ?_⟩, hxq⟩, by simp [intOf] <;> omega⟩
          · have hkl : k < hd.length := by have := V2.out; omega
            rcases Nat.lt_or_ge i k with h | h
            · obtain ⟨B, b1, b2⟩ := V3.out i h
              exact ⟨B, by rw [List.getElem?_set_ne (by omega)]; exact b1, b2.oth (Oth.of_grow hG) (by decide)⟩
            · obtain rfl : i = k := by omega
              exact ⟨_, by rw [List.getElem?_set_self hkl], hrowk⟩
          · rw [List.getElem?_set_ne (by omega)]; exact V4.out i (by omega) hi2
    · obtain rfl : k = rows := by omega
      have HHd := Lib.hid hH
      clear hH
      go_wp2
      go_ret
      obtain ⟨hd, v1, v2, v3, v4⟩ := HHd.out
      refine ⟨_, k, by rw [tab_length]; rfl, ⟨hd, by rw [v2, tab_length], v1.arrX (Nat.le_refl _), fun i r hr => ?_⟩, by rw [tab_length]; omega, by omega, hxr.toStep⟩
      have hi : i < k := by
        rcases Nat.lt_or_ge i k with hi | hi
        · exact hi
        · rw [List.getElem?_eq_none (by rw [tab_length]; exact hi)] at hr; cases hr
      rw [tab_get _ _ _ _ hi] at hr
      injection hr with hr
      subst hr
      obtain ⟨B, b1, b2⟩ := v3 i hi
      exact ⟨B, cols, by simpa using b1, b2, by simp, by omega⟩
set_option maxHeartbeats 400000 in
theorem ToIntsX_ok {w0 w : World} {A : Option Addr} {c : Nat} {m : List (List Int)} (h : MatV w0 A m) (n : Nat) (h1 : 1 ≤ m.length) (h2 : m.length ≤ 16) (h3 : 1 ≤ n) (h4 : n ≤ 16) (hn : AllLen m n) (h64 : Fits64 m) [hx : Ext w0 w] :
    Calls Tryz.prog 100 #[.slice A m.length c] w (RetMat64BX w m true) := by
  have hb := buildI64x_any (w := (w.alloc (.cells #[.slice A m.length c] 160)).alloc (.cells #[.bool true] 4)) 145 #[.pointer (some ⟨w.heap.size, 0, none⟩), .pointer (some ⟨w.heap.size + 1, 0, none⟩)] m.length n (by omega) (by omega) isFn_ToInts1 (fun i j => (m.getD i []).getD j 0)
    (fun i j W hi hj hW => by
      have hr : m[i]? = some m[i] := by simp
      have hl : m[i].length = n := hn _ (List.getElem_mem hi)
      have hxj : m[i][j]? = some (m[i][j]'(by omega)) := by simp
      have hfit := h64 m[i] (List.getElem_mem hi) _ (List.getElem_mem (by omega : j < m[i].length))
      have e1 : (m.getD i []).getD j 0 = m[i][j]'(by omega) := by simp [List.getD, hi, hxj]
      rw [e1]
      have hW1 : Ext (w.alloc (.cells #[.slice A m.length c] 160)) W := Ext.trans inferInstance hW
      obtain ⟨-, a1, a2, a3⟩ := box1At w W w.heap.size (.slice A m.length c) 160 rfl
      obtain ⟨-, b1, b2, b3⟩ := box1At (w.alloc (.cells #[.slice A m.length c] 160)) W (w.heap.size + 1) (.bool true) 4 (by simp)
      have : Ext w W := Ext.trans inferInstance hW
      have : Ext w0 W := hx.trans this
      exact ToInts1_any h i j m[i] _ hr hxj hfit.1 hfit.2 a1 b1 b3 b2)
  rw [tab_eq m n hn] at hb
  have HB := Lib.hid hb
  clear hb
  go_enter Tryz.func100, Tryz.ntmps100
  go_wp2_with fail
  refine (shapeInt_ok h n h1 h2 h3 h4 hn).mono ?_
  rintro e w' ⟨rfl, rfl⟩
  go_wp2_with fail
  refine HB.out.mono ?_
  rintro e w2 ⟨A2, c2, rfl, hm, hc1, hc2, hs2⟩
  obtain ⟨-, b1, b2, b3⟩ := box1At (w.alloc (.cells #[.slice A m.length c] 160)) w2 (w.heap.size + 1) (.bool true) 4 (by simp)
  go_wp2
  go_ret2
  exact ⟨A2, c2, rfl, hm.lower (by simp; omega), hc1, hc2, Step.of _ _⟩
end Go.Proofs.YtaaldapmkhamlaaGreat

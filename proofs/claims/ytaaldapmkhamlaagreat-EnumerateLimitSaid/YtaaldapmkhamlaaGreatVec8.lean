/-
  slices.CompactFunc at keyed vectors that differ.
-/
import Derived.Test.YtaaldapmkhamlaaGreatVec7
namespace Go.Proofs.YtaaldapmkhamlaaGreat
open Go.RowKit
theorem step_of_grow {w w' : World} (h : ∃ q os, w' = Sort.grow (w.drewN q) os) : Step w w' := by
  obtain ⟨q, os, rfl⟩ := h
  refine ⟨⟨rfl, rfl, rfl, by show w.heap.size ≤ (w.heap ++ os).size; simp, fun k hk => ?_⟩⟩
  show (w.heap ++ os)[k]? = _
  rw [Array.getElem?_append_left hk]
theorem isFn_cmp : IsFn 48 := isFn_of Tryz.func48 (by kernel_rfl) (by kernel_rfl)
theorem isFn_sort1 : IsFn 97 := isFn_of Tryz.func97 (by kernel_rfl) (by kernel_rfl)
set_option maxHeartbeats 1000000 in
theorem sort1_any {w : World} {pb sb : Nat} {x y : KE} (hp : w.cell? ⟨pb, 0, none⟩ = some (.pointer (some ⟨sb, 0, none⟩))) (hs : w.cell? ⟨sb, 1, none⟩ = some (.func (.func 48) #[] #[])) (hpb : pb < w.heap.size) (hsb : sb < w.heap.size) (hx : x.ok w) (hy : y.ok w) :
    Calls Tryz.prog 97 #[.agg #[.int .i64 x.key, .slice x.A x.l.length x.c], .agg #[.int .i64 y.key, .slice y.A y.l.length y.c], .pointer (some ⟨pb, 0, none⟩)] w (RetVal w (.bool (x.cmp y == 0))) := by
  obtain ⟨kx, X, cx, lx⟩ := x
  obtain ⟨ky, Y, cy, ly⟩ := y
  obtain ⟨hX, hxl⟩ := hx
  obtain ⟨hY, hyl⟩ := hy
  dsimp only at hX hY hxl hyl ⊢
  obtain ⟨z, hz⟩ : ∃ z, z = cmpK kx ky lx ly := ⟨_, rfl⟩
  have hc := fun W (hh : Ext w W) => compareByNorm_any (w := W) (a := kx) (b := ky) (c := cx) (d := cy) (hX.ext hh) (hY.ext hh) hxl hyl
  rw [← hz] at hc
  have HZ : Hid (KE.cmp ⟨kx, X, cx, lx⟩ ⟨ky, Y, cy, ly⟩ = z) := Lib.hid (by rw [hz]; rfl)
  have HC := Lib.hid hc
  have hfn := isFn_cmp
  unfold IsFn at hfn
  have oP : Old pb w := ⟨hpb⟩
  have oS : Old sb w := ⟨hsb⟩
  clear hz hc
  go_enter Tryz.func97, Tryz.ntmps97
  go_wp2_with fail
  go_region_held3 (fun w' => w'.cell? ⟨pb, 0, none⟩ = some (.pointer (some ⟨sb, 0, none⟩)) ∧ w'.cell? ⟨sb, 1, none⟩ = some (.func (.func 48) #[] #[]) ∧ w'.cell? ⟨w.heap.size, 0, none⟩ = some (.int .i64 kx) ∧ w'.cell? ⟨w.heap.size, 1, none⟩ = some (.slice X lx.length cx) ∧ w'.cell? ⟨w.heap.size + 1, 0, none⟩ = some (.int .i64 ky) ∧ w'.cell? ⟨w.heap.size + 1, 1, none⟩ = some (.slice Y ly.length cy)) (first | (refine ⟨?_, ?_, boxes2 w _ _ _ _ _ 110 110⟩ <;> simp [go_sem, hp, hs]))
    (first
      | (go_at_call 48; refine (HC.out _ inferInstance).mono ?_; rintro e w1 ⟨rfl, hq⟩; (have hs1 := step_of_grow hq); clear hq))
  go_wp2
  go_ret
  exact ⟨by rw [HZ.out]; rfl, Step.of _ _⟩
theorem KRow.ext {w w' : World} {g : Nat} {els : List KE} (h : KRow w g els) (hx : Ext w w') : KRow w' g els := by
  obtain ⟨cur, h1, h2⟩ := h
  exact ⟨cur, heap_of_ext hx h1, h2⟩
theorem KRow.cells {w : World} {g : Nat} {els : List KE} (h : KRow w g els) {i : Nat} {x : KE} (hx : els[i]? = some x) : w.cell? ⟨g, i * 2, none⟩ = some (.int .i64 x.key) ∧ w.cell? ⟨g, i * 2 + 1, none⟩ = some (.slice x.A x.l.length x.c) ∧ g < w.heap.size := by
  obtain ⟨cur, h1, h2⟩ := h
  obtain ⟨a, b⟩ := h2 i x hx
  rw [Nat.mul_comm] at a b
  exact ⟨by simp [World.cell?, h1]; exact a, by simp [World.cell?, h1]; exact b, lt_of_heap h1⟩
theorem KE.ok.ext {w w' : World} {x : KE} (h : x.ok w) (hx : Ext w w') : x.ok w' := ⟨h.1.ext hx, h.2⟩
set_option maxHeartbeats 2000000 in
/-- slices.CompactFunc where no two neighbours are equal. -/
theorem CompactK_any {w : World} {pb sb g cap : Nat} {els : List KE} (hrow : KRow w g els) (hok : ∀ x ∈ els, x.ok w) (hn : els.length ≤ 1099511627776) (hne : ∀ i x y, els[i]? = some x → els[i + 1]? = some y → (y.cmp x == 0) = false)
    (hp : w.cell? ⟨pb, 0, none⟩ = some (.pointer (some ⟨sb, 0, none⟩))) (hs : w.cell? ⟨sb, 1, none⟩ = some (.func (.func 48) #[] #[])) (hpb : pb < w.heap.size) (hsb : sb < w.heap.size) :
    Calls Tryz.prog 96 #[.slice (some ⟨g, 0, none⟩) els.length cap, .func (.func 97) #[] #[.pointer (some ⟨pb, 0, none⟩)]] w (RetVal w (.slice (some ⟨g, 0, none⟩) els.length cap)) := by
  by_cases h2 : els.length < 2
  · go_enter Tryz.func96, Tryz.ntmps96
    go_wp2
    go_ret
    exact ⟨rfl, Step.of _ _⟩
  have hfn := isFn_sort1
  unfold IsFn at hfn
  obtain ⟨n, hN⟩ : ∃ n, n = els.length := ⟨_, rfl⟩
  have HN := Lib.hid hN
  rw [← hN] at hn h2 ⊢
  have HNE := Lib.hid hne
  have HOK := Lib.hid hok
  have HP := Lib.hid hp
  have HS := Lib.hid hs
  clear hN hne hok hp hs
  go_enter Tryz.func96, Tryz.ntmps96
  go_wp2
  go_loopw [5] (fun i wr => ∃ k : Nat, 1 ≤ k ∧ k ≤ n ∧ i = .int .i64 k ∧ Ext w wr) (fun i _ => n - (intOf i).toNat)
  case atStart => exact ⟨1, by omega, by omega, rfl, inferInstance⟩
  case round =>
    obtain ⟨k, hk1, hk2, rfl, hxr⟩ := hrel
    by_cases hlt : k < n
    · obtain ⟨j, HJ⟩ : ∃ j, Hid (k = j + 1) := ⟨k - 1, Lib.hid (by omega)⟩
      obtain ⟨x, hx⟩ : ∃ x, els[k]? = some x := ⟨_, List.getElem?_eq_getElem (by have := HN.out; omega)⟩
      obtain ⟨y, hy⟩ : ∃ y, els[j]? = some y := ⟨_, List.getElem?_eq_getElem (by have := HN.out; have := HJ.out; omega)⟩
      obtain ⟨c1, c2, c3⟩ := (hrow.ext hxr).cells hx
      obtain ⟨c4, c5, -⟩ := (hrow.ext hxr).cells hy
      have hz := HNE.out j y x hy (by rw [← HJ.out]; exact hx)
      have hcall := fun W (hh : Ext w W) => sort1_any (w := W) (x := x) (y := y) ((hh.below.cell (p := ⟨pb, 0, none⟩) hpb).trans HP.out) ((hh.below.cell (p := ⟨sb, 1, none⟩) hsb).trans HS.out) (Nat.lt_of_lt_of_le hpb hh.size) (Nat.lt_of_lt_of_le hsb hh.size) ((HOK.out x (List.mem_of_getElem? hx)).ext hh) ((HOK.out y (List.mem_of_getElem? hy)).ext hh)
      rw [hz] at hcall
      have HC := Lib.hid hcall
      have hjk : j = k - 1 := by have := HJ.out; omega
      rw [hjk] at c4 c5
      clear hcall hz hx hy hjk
      have hw1 : IntKind.i64.wrap ((k : Int) - 1) = (k : Int) - 1 := IntWalk.i64_in _ (by omega)
      have hw2 : ((k : Int) - 1).toNat = k - 1 := by omega
      have hw3 : 0 ≤ (k : Int) - 1 := by omega
      have hw4 : (k : Int) - 1 < (n : Int) := by omega
      have hw5 : (1 : Int) ≤ (k : Int) := by omega
      have oG : Old g wr := ⟨c3⟩
      go_wp2_with fail
      go_region_held3 (fun w' => w'.cell? ⟨g, k * 2, none⟩ = some (.int .i64 x.key) ∧ w'.cell? ⟨g, k * 2 + 1, none⟩ = some (.slice x.A x.l.length x.c) ∧ w'.cell? ⟨g, (k - 1) * 2, none⟩ = some (.int .i64 y.key) ∧ w'.cell? ⟨g, (k - 1) * 2 + 1, none⟩ = some (.slice y.A y.l.length y.c)) ((simp only [cellE wr]; exact ⟨c1, c2, c4, c5⟩))
        (first
          | (go_at_call 97; refine (HC.out _ inferInstance).mono ?_; rintro e w1 ⟨rfl, hs1⟩))
      all_goals
        go_wp2
        refine ⟨⟨k + 1, by omega, by omega, by go_num, inferInstance⟩, by simp [intOf] <;> omega⟩
    · obtain rfl : k = n := by omega
      clear hlt
      go_wp2
      go_ret
      exact ⟨rfl, Step.of _ _⟩
end Go.Proofs.YtaaldapmkhamlaaGreat

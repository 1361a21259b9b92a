/-
  The memory of the search of collect.
-/
import Derived.Test.YtaaldapmkhamlaaGreatSrch1
import Derived.Laws.EntriesVeiled
namespace Go.Proofs.YtaaldapmkhamlaaGreat
open Go.RowKit
/-- What the search has captured. -/
def sCaps (s eb : Nat) : Array Value := #[.pointer (some ⟨s, 0, none⟩), .pointer (some ⟨s + 2, 0, none⟩), .pointer (some ⟨s + 4, 0, none⟩), .pointer (some ⟨eb, 0, none⟩), .pointer (some ⟨s + 3, 0, none⟩)]
/-- The memory of the search: s is the first of its blocks. -/
structure SMem (w1 W : World) (n : Nat) (mA lA : Option Addr) (mc lc eb : Nat) (exact : Bool) (lB : Option Addr) (c : Nat) (l : List (List Int)) (vs : List Value) : Prop where
  ext : Ext w1 W
  fb : W.heap[w1.heap.size]? = some (.cells #[.slice mA (n + 1) mc, .slice lA n lc] 113 (0, 0))
  xb : W.heap[w1.heap.size + 2]? = some (.cells #[.slice (some ⟨w1.heap.size + 1, 0, none⟩) n n] 22 (0, 0))
  lb : W.heap[w1.heap.size + 3]? = some (.cells #[.slice lB l.length c] 23 (0, 0))
  sb : W.heap[w1.heap.size + 4]? = some (.cells #[.func (.func 56) #[] (sCaps w1.heap.size eb)] 115 (0, 0))
  ebl : eb < w1.heap.size
  ec : w1.cell? ⟨eb, 0, none⟩ = some (.bool exact)
  ls : LOwn W (w1.heap.size + 5) lB c l vs
  sz : w1.heap.size + 5 ≤ W.heap.size
theorem SMem.setX {w1 W : World} {n : Nat} {mA lA : Option Addr} {mc lc eb : Nat} {exact : Bool} {lB : Option Addr} {c : Nat} {l : List (List Int)} {vs : List Value} (h : SMem w1 W n mA lA mc lc eb exact lB c l vs) (i : Nat) (u : Value) : SMem w1 (W.setCell ⟨w1.heap.size + 1, i, none⟩ u) n mA lA mc lc eb exact lB c l vs where
  ext := h.ext.setCell (p := ⟨w1.heap.size + 1, i, none⟩) (Nat.le_succ _) u
  fb := heap_setCell_far h.fb (show w1.heap.size ≠ w1.heap.size + 1 by omega) u
  xb := heap_setCell_far h.xb (show w1.heap.size + 2 ≠ w1.heap.size + 1 by omega) u
  lb := heap_setCell_far h.lb (show w1.heap.size + 3 ≠ w1.heap.size + 1 by omega) u
  sb := heap_setCell_far h.sb (show w1.heap.size + 4 ≠ w1.heap.size + 1 by omega) u
  ebl := h.ebl
  ec := h.ec
  ls := h.ls.set (p := ⟨w1.heap.size + 1, i, none⟩) (show w1.heap.size + 1 < w1.heap.size + 5 by omega) u
  sz := by rw [size_setCell]; exact h.sz
theorem XRow.put0 {w : World} {sz n k : Nat} {tail : List Int} (h : XRow w sz n k tail) (x : Int) : XRow (w.setCell ⟨sz, k, none⟩ (.int .i64 x)) sz n k tail := by
  obtain ⟨xs, h1, h2, h3⟩ := h
  exact ⟨_, h1.set k x, by simp [h2], by rw [List.drop_set_of_lt (by omega), h3]⟩
theorem XRow.full {w : World} {sz n k : Nat} {tail : List Int} (h : XRow w sz n k tail) (hk : k = 0) (hn : k < n) (x : Int) : Row (w.setCell ⟨sz, k, none⟩ (.int .i64 x)) sz 2 .i64 (x :: tail) ∧ (x :: tail).length = n := by
  subst hk
  obtain ⟨xs, h1, h2, h3⟩ := h
  cases xs with
  | nil => simp at h2; omega
  | cons y ys =>
    simp at h3
    subst h3
    exact ⟨h1.set 0 x, by simpa using h2⟩
theorem box_set1 {w : World} {b : Nat} {x u : Value} {T : TypeId} (h : w.heap[b]? = some (.cells #[x] T (0, 0))) : (w.setCell ⟨b, 0, none⟩ u).heap[b]? = some (.cells #[u] T (0, 0)) := by
  rw [heap_setCell_self h]; rfl
theorem SMem.snoc {w1 W W3 w4 : World} {n : Nat} {mA lA : Option Addr} {mc lc eb : Nat} {exact : Bool} {lB : Option Addr} {c : Nat} {l : List (List Int)} {vs : List Value} (h : SMem w1 W n mA lA mc lc eb exact lB c l vs) (hx : Ext W W3) {A4 B : Option Addr} {d4 d : Nat} {r : List Int} (hg : Grow (w1.heap.size + 5) 22 W3 w4) (ho : Own w4 (w1.heap.size + 5) 22 1 A4 (l.length + 1) d4 (vs ++ [.slice B r.length d])) (hr : ArrX (w1.heap.size + 5) W3 B 2 (r.map (Value.int .i64))) (h1 : r.length ≤ d) (h2 : d ≤ 9223372036854775807) :
    SMem w1 (w4.setCell ⟨w1.heap.size + 3, 0, none⟩ (.slice A4 (l.length + 1) d4)) n mA lA mc lc eb exact A4 d4 (l ++ [r]) (vs ++ [.slice B r.length d]) := by
  have hk : ∀ b, b < w1.heap.size + 5 → ∀ o, W.heap[b]? = some o → w4.heap[b]? = some o := fun b hb o ho => (hg.below.block b hb).trans (heap_of_ext hx ho)
  refine ⟨?_, ?_, ?_, ?_, ?_, h.ebl, h.ec, ?_, ?_⟩
  · exact (hg.ext (h.ext.trans hx) (by omega)).setCell (p := ⟨w1.heap.size + 3, 0, none⟩) (by simp) _
  · exact heap_setCell_far (hk _ (by omega) _ h.fb) (show w1.heap.size ≠ w1.heap.size + 3 by omega) _
  · exact heap_setCell_far (hk _ (by omega) _ h.xb) (show w1.heap.size + 2 ≠ w1.heap.size + 3 by omega) _
  · rw [List.length_append]; exact box_set1 (hk _ (by omega) _ h.lb)
  · exact heap_setCell_far (hk _ (by omega) _ h.sb) (show w1.heap.size + 4 ≠ w1.heap.size + 3 by omega) _
  · exact (h.ls.snoc hx hg ho hr h1 h2).set (p := ⟨w1.heap.size + 3, 0, none⟩) (show w1.heap.size + 3 < w1.heap.size + 5 by omega) _
  · rw [size_setCell]
    have := h.sz; have := hx.size; have := hg.below.size
    omega
def SearchPost (w1 : World) (n : Nat) (mA lA : Option Addr) (mc lc eb : Nat) (exact : Bool) (l : List (List Int)) (k : Nat) (tail : List Int) (e : Ending) (W' : World) : Prop :=
  e = .returned (.tuple #[]) ∧ XRow W' (w1.heap.size + 1) n k tail ∧ ∃ lB c vs, SMem w1 W' n mA lA mc lc eb exact lB c l vs
theorem isFn_search : IsFn 56 := isFn_of Tryz.func56 (by kernel_rfl) (by kernel_rfl)
/-- Behind the append of a vector to the list. -/
theorem SMem.took {w1 wS W5 w6 : World} {n k ln s5 : Nat} {mA lA : Option Addr} {mc lc eb : Nat} {exact : Bool} {lB : Option Addr} {c : Nat} {l t t' : List (List Int)} {tail : List Int} {x : Int} {vs : List Value} {A6 B5 : Option Addr} {d5 d6 : Nat}
    (hM : SMem w1 wS n mA lA mc lc eb exact lB c (l ++ t) vs) (hX : XRow wS (w1.heap.size + 1) n k tail) (hs : Ext wS W5) (hO : Own W5 s5 2 1 B5 (x :: tail).length d5 ((x :: tail).map (Value.int .i64))) (hs5 : w1.heap.size + 5 ≤ s5) (hn : (x :: tail).length = n) (hl : (l ++ t).length = ln)
    (ho : Own w6 (w1.heap.size + 5) 22 1 A6 (ln + 1) d6 (vs ++ [.slice B5 n d5])) (hg : Grow (w1.heap.size + 5) 22 (W5.alloc (.cells #[.slice B5 n d5] 22)) w6) (ht : t' = t ++ [x :: tail]) :
    XRow (w6.setCell ⟨w1.heap.size + 3, 0, none⟩ (.slice A6 (ln + 1) d6)) (w1.heap.size + 1) n k tail ∧ SMem w1 (w6.setCell ⟨w1.heap.size + 3, 0, none⟩ (.slice A6 (ln + 1) d6)) n mA lA mc lc eb exact A6 d6 (l ++ t') (vs ++ [.slice B5 n d5]) := by
  subst hl ht
  have hx : Ext wS (W5.alloc (.cells #[.slice B5 n d5] 22)) := Ext.alloc _ _ _
  have hc := hO.cap
  constructor
  · refine hX.keep ?_
    rw [Below.heap_setCell _ _ _ _ (show w1.heap.size + 1 ≠ w1.heap.size + 3 by omega), hg.below.block _ (by omega)]
    exact hx.below.block _ (by have := hM.sz; omega)
  · have := hM.snoc hx (r := x :: tail) (B := B5) (d := d5) hg (by rw [hn]; exact ho) ((hO.arrX.lower hs5).ext (Ext.alloc _ _ _)) hc.1 hc.2
    rw [← List.append_assoc]
    rw [hn] at this
    exact this
end Go.Proofs.YtaaldapmkhamlaaGreat

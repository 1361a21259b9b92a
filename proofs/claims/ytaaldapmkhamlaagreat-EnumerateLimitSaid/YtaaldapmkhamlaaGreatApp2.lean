/-
  More words for rows that a call makes: kept under stores into other rows; read as lists of integers; blocks of a range.
-/
import Derived.Test.YtaaldapmkhamlaaGreatSch
import Derived.Deep.RegionLaw
import Derived.Deep.AppendLies
namespace Go.Proofs.YtaaldapmkhamlaaGreat
open Go.RowKit
section
variable {w w' : World} {base : Nat} {e e' : TypeId} {size : Nat} {A : Option Addr} {n c : Nat} {xs : List Value}
theorem Own.far (h : Own w base e size A n c xs) {p : Addr} {cs : Array Value} {fr : Nat × Nat} (hp : w.heap[p.block]? = some (.cells cs e' fr)) (hne : e ≠ e') (u : Value) : Own (w.setCell p u) base e size A n c xs := by
  refine ⟨h.1, ?_⟩
  rcases h.2 with hv | ⟨g, cap, cur, hv, h1, h2, h3⟩
  · exact .inl hv
  · refine .inr ⟨g, cap, cur, hv, h1, (Below.heap_setCell w p u g (fun hh => ?_)).trans h2, h3⟩
    subst hh
    rw [h2] at hp
    injection hp with hp
    injection hp with _ he
    exact hne he
theorem Own.grow (h : Own w base e size A n c xs) {base' : Nat} (hg : Grow base' e' w w') (hne : e ≠ e') : Own w' base e size A n c xs := by
  refine ⟨h.1, ?_⟩
  rcases h.2 with hv | ⟨g, cap, cur, hv, h1, h2, h3⟩
  · exact .inl hv
  · exact .inr ⟨g, cap, cur, hv, h1, hg.heap h2 hne, h3⟩
theorem Own.new (w : World) (e : TypeId) (size n : Nat) (cs : Array Value) (hn : cs.size = n * size) (hm : n ≤ 9223372036854775807) : Own (w.alloc (.cells cs e)) w.heap.size e size (some ⟨w.heap.size, 0, none⟩) n n cs.toList :=
  ⟨by simpa using hn, .inr ⟨w.heap.size, n, cs, rfl, Nat.le_refl _, heap_alloc_new w _, Nat.le_refl _, by unfold maxLen; omega, hn, by rw [← hn, ← Array.length_toList, List.take_length]⟩⟩
end
/-- The cells of a list of integers of any size. -/
def VsOf (w : World) (vs : List Value) (zs : List Int) : Prop := ∀ (i : Nat) (z : Int), zs[i]? = some z → ∃ g B n c, vs[i * 2]? = some (.bool g) ∧ vs[i * 2 + 1]? = some (.slice B n c) ∧ IntV w g B n c z
theorem VsOf.snoc {w : World} {vs : List Value} {zs : List Int} {z : Int} {g : Bool} {B : Option Addr} {n c : Nat} (h : VsOf w vs zs) (hl : vs.length = zs.length * 2) (hz : IntV w g B n c z) : VsOf w (vs ++ [.bool g, .slice B n c]) (zs ++ [z]) := fun i y hy => by
  rcases Nat.lt_or_ge i zs.length with hi | hi
  · rw [List.getElem?_append_left hi] at hy
    obtain ⟨g1, B1, n1, c1, a1, a2, a3⟩ := h i y hy
    exact ⟨g1, B1, n1, c1, by rw [List.getElem?_append_left (by omega)]; exact a1, by rw [List.getElem?_append_left (by omega)]; exact a2, a3⟩
  · have hi' : i = zs.length := by
      have : i < (zs ++ [z]).length := by
        rcases Nat.lt_or_ge i (zs ++ [z]).length with h | h
        · exact h
        · rw [List.getElem?_eq_none h] at hy; cases hy
      simp at this; omega
    subst hi'
    have : y = z := by simpa using hy.symm
    subst this
    exact ⟨g, B, n, c, by rw [List.getElem?_append_right (by omega), hl]; simp, by rw [List.getElem?_append_right (by omega), hl]; simp, hz⟩
theorem VsOf.one {w : World} {z : Int} {g : Bool} {B : Option Addr} {n c : Nat} (hz : IntV w g B n c z) : VsOf w [.bool g, .slice B n c] [z] := VsOf.snoc (vs := []) (zs := []) (fun i y hy => by simp at hy) rfl hz
theorem VsOf.intsV {w w' : World} {A : Option Addr} {vs : List Value} {zs : List Int} (h : VsOf w vs zs) (hl : vs.length = zs.length * 2) (ha : Arr w' A 158 vs) (hx : Ext w w') : IntsV w' A zs :=
  ⟨vs, hl, ha, fun i z hz => by
    obtain ⟨g, B, n, c, a1, a2, a3⟩ := h i z hz
    exact ⟨g, B, n, c, a1, a2, a3.ext hx⟩⟩
/-- A box of two cells, read. -/
theorem box_cells2 {w : World} {b : Nat} {x y : Value} {T : TypeId} (h : w.heap[b]? = some (.cells #[x, y] T (0, 0))) : w.cell? ⟨b, 0, none⟩ = some x ∧ w.cell? ⟨b, 1, none⟩ = some y ∧ w.frozen? ⟨b, 0, none⟩ = false ∧ w.frozen? ⟨b, 1, none⟩ = false ∧ b < w.heap.size :=
  ⟨by simp [World.cell?, h], by simp [World.cell?, h], by simp [World.frozen?, h], by simp [World.frozen?, h], lt_of_heap h⟩
theorem box_set2_1 {w : World} {b : Nat} {x y u : Value} {T : TypeId} (h : w.heap[b]? = some (.cells #[x, y] T (0, 0))) : (w.setCell ⟨b, 1, none⟩ u).heap[b]? = some (.cells #[x, u] T (0, 0)) := by
  rw [heap_setCell_self h]; rfl
theorem box_set2_0 {w : World} {b : Nat} {x y u : Value} {T : TypeId} (h : w.heap[b]? = some (.cells #[x, y] T (0, 0))) : (w.setCell ⟨b, 0, none⟩ u).heap[b]? = some (.cells #[u, y] T (0, 0)) := by
  rw [heap_setCell_self h]; rfl

/-! ## All rows but those of one type are kept -/
/-- Whatever row has another element type than T lies in w' as it lay in w. -/
def Oth (T : TypeId) (w w' : World) : Prop := ∀ (b : Nat) (cs : Array Value) (e : TypeId) (fr : Nat × Nat), e ≠ T → w.heap[b]? = some (.cells cs e fr) → w'.heap[b]? = some (.cells cs e fr)
section
variable {T e : TypeId} {w w' w2 : World} {A : Option Addr}
theorem Oth.refl (T : TypeId) (w : World) : Oth T w w := fun _ _ _ _ _ h => h
theorem Oth.of_ext (hx : Ext w w') : Oth T w w' := fun _ _ _ _ _ h => heap_of_ext hx h
theorem Oth.trans (h : Oth T w w') (h' : Oth T w' w2) : Oth T w w2 := fun b cs e fr hn hb => h' b cs e fr hn (h b cs e fr hn hb)
theorem Oth.of_grow {base : Nat} (h : Grow base T w w') : Oth T w w' := fun _ _ _ _ hn hb => h.heap hb hn
theorem Oth.set {p : Addr} {cs : Array Value} {fr : Nat × Nat} (hp : w.heap[p.block]? = some (.cells cs T fr)) (u : Value) : Oth T w (w.setCell p u) := fun b cs' e fr' hn hb =>
  (Below.heap_setCell w p u b (fun hh => by subst hh; rw [hp] at hb; injection hb with hb; injection hb with _ he; exact hn he.symm)).trans hb
theorem Oth.set2 {b : Nat} {cs : Array Value} (hp : w.heap[b]? = some (.cells cs T (0, 0))) (i j : Nat) (u v : Value) : Oth T w ((w.setCell ⟨b, i, none⟩ u).setCell ⟨b, j, none⟩ v) :=
  (Oth.set (p := ⟨b, i, none⟩) hp u).trans (Oth.set (p := ⟨b, j, none⟩) (heap_setCell_self hp u) v)
theorem Arr.oth {vs : List Value} (h : Arr w A e vs) (ho : Oth T w w') (hn : e ≠ T) : Arr w' A e vs := fun h0 => by
  obtain ⟨b, o, cs, fr, rfl, hb, hc⟩ := h h0
  exact ⟨b, o, cs, fr, rfl, ho _ _ _ _ hn hb, hc⟩
theorem Ints.oth {k : IntKind} {l : List Int} (h : Ints w A e k l) (ho : Oth T w w') (hn : e ≠ T) : Ints w' A e k l := Arr.oth h ho hn
theorem IntV.oth {neg : Bool} {n c : Nat} {z : Int} (h : IntV w neg A n c z) (ho : Oth T w w') (hn : 237 ≠ T) : IntV w' neg A n c z := by
  obtain ⟨l, h1, h2, h3, h4, h5, h6, h7⟩ := h
  exact ⟨l, h1, h2, h3, h4, h5, Arr.oth h6 ho hn, h7⟩
theorem IntsV.oth {zs : List Int} (h : IntsV w A zs) (ho : Oth T w w') (h1 : 158 ≠ T) (h2 : 237 ≠ T) : IntsV w' A zs := by
  obtain ⟨vs, a1, a2, a3⟩ := h
  refine ⟨vs, a1, a2.oth ho h1, fun i z hz => ?_⟩
  obtain ⟨g, B, n, c, b1, b2, b3⟩ := a3 i z hz
  exact ⟨g, B, n, c, b1, b2, b3.oth ho h2⟩
theorem MatV.oth {m : List (List Int)} (h : MatV w A m) (ho : Oth T w w') (h0 : 152 ≠ T) (h1 : 158 ≠ T) (h2 : 237 ≠ T) : MatV w' A m := by
  obtain ⟨vs, a1, a2, a3⟩ := h
  refine ⟨vs, a1, a2.oth ho h0, fun i z hz => ?_⟩
  obtain ⟨B, c, b1, b2, b3⟩ := a3 i z hz
  exact ⟨B, c, b1, b2.oth ho h1 h2, b3⟩
theorem StV.oth {s : List (List (List Int))} (h : StV w A s) (ho : Oth T w w') (h3 : 160 ≠ T) (h0 : 152 ≠ T) (h1 : 158 ≠ T) (h2 : 237 ≠ T) : StV w' A s := by
  obtain ⟨vs, a1, a2, a3⟩ := h
  refine ⟨vs, a1, a2.oth ho h3, fun i z hz => ?_⟩
  obtain ⟨B, c, b1, b2, b3⟩ := a3 i z hz
  exact ⟨B, c, b1, b2.oth ho h0 h1 h2, b3⟩
theorem Mat64.oth {m : List (List Int)} (h : Mat64 w A m) (ho : Oth T w w') (h0 : 22 ≠ T) (h1 : 2 ≠ T) : Mat64 w' A m := by
  obtain ⟨vs, a1, a2, a3⟩ := h
  refine ⟨vs, a1, a2.oth ho h0, fun i z hz => ?_⟩
  obtain ⟨B, c, b1, b2, b3⟩ := a3 i z hz
  exact ⟨B, c, b1, b2.oth ho h1, b3⟩
theorem Own.oth {base size n c : Nat} {xs : List Value} (h : Own w base e size A n c xs) (ho : Oth T w w') (hn : e ≠ T) : Own w' base e size A n c xs := by
  refine ⟨h.1, ?_⟩
  rcases h.2 with hv | ⟨g, cap, cur, hv, h1, h2, h3⟩
  · exact .inl hv
  · exact .inr ⟨g, cap, cur, hv, h1, ho _ _ _ _ hn h2, h3⟩
end
end Go.Proofs.YtaaldapmkhamlaaGreat

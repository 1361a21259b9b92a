/-
  What the search of collect finds; its list in memory.
-/
import Derived.Test.YtaaldapmkhamlaaGreatApp3
namespace Go.Proofs.YtaaldapmkhamlaaGreat
open Go.RowKit
/-! ## What the search of collect finds -/
/-- The first coordinate of the interval that is tried. -/
def sLo (D : List Int) (L : List (List Int)) (k : Nat) (rest : Int) (zero : Bool) (tail : List Int) : Int := if zero then 0 else vLo D L k rest tail
def sCnt (D : List Int) (L : List (List Int)) (k : Nat) (rest : Int) (zero : Bool) (tail : List Int) : Nat := (vHi D L k rest tail - sLo D L k rest zero tail + 1).toNat
/-- Whether a vector is taken: it is not 0, and of the very norm if that is asked. -/
def takes (zero exact : Bool) (c left : Int) : Bool := !(zero && decide (c = 0)) && !(exact && !decide (left = 0))
def searchL (D : List Int) (L : List (List Int)) (exact : Bool) : Nat → Int → Bool → List Int → List (List Int)
  | 0, rest, zero, tail => (List.range (sCnt D L 0 rest zero tail)).flatMap fun (j : Nat) =>
      if takes zero exact (sLo D L 0 rest zero tail + j) (vRest D L 0 rest tail (sLo D L 0 rest zero tail + j)) then [(sLo D L 0 rest zero tail + (j : Int)) :: tail] else []
  | k + 1, rest, zero, tail => (List.range (sCnt D L (k + 1) rest zero tail)).flatMap fun (j : Nat) =>
      searchL D L exact k (vRest D L (k + 1) rest tail (sLo D L (k + 1) rest zero tail + j)) (zero && decide (sLo D L (k + 1) rest zero tail + j = 0)) ((sLo D L (k + 1) rest zero tail + (j : Int)) :: tail)
/-- What one coordinate gives. -/
def searchC (D : List Int) (L : List (List Int)) (exact : Bool) (k : Nat) (rest : Int) (zero : Bool) (tail : List Int) (c : Int) : List (List Int) :=
  if k = 0 then (if takes zero exact c (vRest D L k rest tail c) then [c :: tail] else []) else searchL D L exact (k - 1) (vRest D L k rest tail c) (zero && decide (c = 0)) (c :: tail)
def searchTo (D : List Int) (L : List (List Int)) (exact : Bool) (k : Nat) (rest : Int) (zero : Bool) (tail : List Int) (j : Nat) : List (List Int) :=
  (List.range j).flatMap fun (i : Nat) => searchC D L exact k rest zero tail (sLo D L k rest zero tail + (i : Int))
theorem searchTo_succ (D : List Int) (L : List (List Int)) (exact : Bool) (k : Nat) (rest : Int) (zero : Bool) (tail : List Int) (j : Nat) :
    searchTo D L exact k rest zero tail (j + 1) = searchTo D L exact k rest zero tail j ++ searchC D L exact k rest zero tail (sLo D L k rest zero tail + (j : Int)) := by
  simp [searchTo, List.range_succ]
theorem searchL_eq (D : List Int) (L : List (List Int)) (exact : Bool) (k : Nat) (rest : Int) (zero : Bool) (tail : List Int) :
    searchL D L exact k rest zero tail = searchTo D L exact k rest zero tail (sCnt D L k rest zero tail) := by
  cases k with
  | zero => simp [searchL, searchTo, searchC]
  | succ k => simp [searchL, searchTo, searchC]
theorem searchTo_prefix (D : List Int) (L : List (List Int)) (exact : Bool) (k : Nat) (rest : Int) (zero : Bool) (tail : List Int) {i j : Nat} (h : i ≤ j) : searchTo D L exact k rest zero tail i <+: searchTo D L exact k rest zero tail j := by
  obtain ⟨m, rfl⟩ : ∃ m, j = i + m := ⟨j - i, by omega⟩
  induction m with
  | zero => exact List.prefix_rfl
  | succ m ih => rw [← Nat.add_assoc, searchTo_succ]; exact (ih (by omega)).trans (List.prefix_append _ _)
theorem vLo_zero {D : List Int} {L : List (List Int)} {n : Nat} {bound : Int} {k : Nat} {rest : Int} {tail : List Int} (hN : NumOK D L n bound) (h : LevOK D n bound k rest tail) (h0 : absSum tail = 0) : vLo D L k rest tail ≤ 0 := by
  have := (vEnds hN h).2.1
  omega
theorem sLo_le {D : List Int} {L : List (List Int)} {n : Nat} {bound : Int} {k : Nat} {rest : Int} {zero : Bool} {tail : List Int} (hN : NumOK D L n bound) (h : LevOK D n bound k rest tail) (hz : zero = true → absSum tail = 0) : vLo D L k rest tail ≤ sLo D L k rest zero tail := by
  unfold sLo; split
  · rename_i hh; exact vLo_zero hN h (hz hh)
  · exact Int.le_refl _
/-! ## The list in memory -/
/-- The list so far: headers and rows in blocks at base or beyond. -/
structure LOwn (w : World) (base : Nat) (A : Option Addr) (c : Nat) (l : List (List Int)) (vs : List Value) : Prop where
  own : Own w base 22 1 A l.length c vs
  row : ∀ (i : Nat) (r : List Int), l[i]? = some r → ∃ B d, vs[i]? = some (.slice B r.length d) ∧ ArrX base w B 2 (r.map (Value.int .i64)) ∧ r.length ≤ d ∧ d ≤ 9223372036854775807
theorem LOwn.nil (w : World) (base : Nat) : LOwn w base none 0 [] [] := ⟨Own.nil _ _ _ _, fun i r hr => by simp at hr⟩
theorem LOwn.ext {w w' : World} {base : Nat} {A : Option Addr} {c : Nat} {l : List (List Int)} {vs : List Value} (h : LOwn w base A c l vs) (hx : Ext w w') : LOwn w' base A c l vs :=
  ⟨h.own.ext hx, fun i r hr => by obtain ⟨B, d, a, b, e⟩ := h.row i r hr; exact ⟨B, d, a, b.ext hx, e⟩⟩
/-- A store into a block ahead of base. -/
theorem LOwn.set {w : World} {base : Nat} {A : Option Addr} {c : Nat} {l : List (List Int)} {vs : List Value} (h : LOwn w base A c l vs) {p : Addr} (hp : p.block < base) (u : Value) : LOwn (w.setCell p u) base A c l vs := by
  have hk : ∀ b, base ≤ b → (w.setCell p u).heap[b]? = w.heap[b]? := fun b hb => Below.heap_setCell w p u b (by omega)
  refine ⟨⟨h.own.1, ?_⟩, fun i r hr => ?_⟩
  · rcases h.own.2 with hv | ⟨g, cap, cur, hv, h1, h2, h3⟩
    · exact .inl hv
    · exact .inr ⟨g, cap, cur, hv, h1, (hk g h1).trans h2, h3⟩
  · obtain ⟨B, d, a, b, e⟩ := h.row i r hr
    exact ⟨B, d, a, b.keep (fun b' _ _ hb' _ => hk b' hb'), e⟩
theorem LOwn.mat {w : World} {base : Nat} {A : Option Addr} {c : Nat} {l : List (List Int)} {vs : List Value} (h : LOwn w base A c l vs) : Mat64 w A l :=
  ⟨vs, by have := h.own.len; omega, h.own.arr, fun i r hr => by obtain ⟨B, d, a, b, e⟩ := h.row i r hr; exact ⟨B, d, a, b.arr, e⟩⟩
theorem LOwn.snoc {w W w' : World} {base : Nat} {A A' B : Option Addr} {c c' d : Nat} {l : List (List Int)} {r : List Int} {vs : List Value} (h : LOwn w base A c l vs) (hx : Ext w W) (hg : Grow base 22 W w') (ho : Own w' base 22 1 A' (l.length + 1) c' (vs ++ [.slice B r.length d])) (hr : ArrX base W B 2 (r.map (Value.int .i64))) (h1 : r.length ≤ d) (h2 : d ≤ 9223372036854775807) : LOwn w' base A' c' (l ++ [r]) (vs ++ [.slice B r.length d]) := by
  have hvl : vs.length = l.length := by have := h.own.len; omega
  refine ⟨by rw [List.length_append]; exact ho, fun i x hx' => ?_⟩
  rcases Nat.lt_or_ge i l.length with hi | hi
  · rw [List.getElem?_append_left hi] at hx'
    obtain ⟨B1, d1, a, b, e⟩ := h.row i x hx'
    exact ⟨B1, d1, by rw [List.getElem?_append_left (by omega)]; exact a, (b.ext hx).oth (Oth.of_grow hg) (by decide), e⟩
  · have hi' : i = l.length := by
      have := (List.getElem?_eq_some_iff.1 hx').1
      simp at this; omega
    subst hi'
    have : x = r := by simpa using hx'.symm
    subst this
    exact ⟨B, d, by rw [List.getElem?_append_right (by omega), hvl]; simp, hr.oth (Oth.of_grow hg) (by decide), h1, h2⟩
end Go.Proofs.YtaaldapmkhamlaaGreat

/-
  Words for memory: a world that extends another one (Ext, Step), slices that read as lists (Arr, Ints), integers of any size (IntV). No statement of the seat is proved here.
-/
import Derived.Test.YtaaldapmkhamlaaGreatProg
import Derived.WalkKit
import Derived.WalkSpells
import Derived.WalkLawsBesides
import Derived.Lib.Hide
import Derived.Deep.QuietTactic
import Derived.BigQuiet
import Derived.Deep.Draws
import Derived.Laws.Rows
namespace Go.Proofs.YtaaldapmkhamlaaGreat
open Go.RowKit

/-- w' is w with new blocks: nothing that lay in w has changed. -/
class Ext (w w' : World) : Prop where
  below : Below w.heap.size w w'
/-- The last step from one world to the next one (found by the second). -/
class Step (w : outParam World) (w' : World) : Prop where
  below : Below w.heap.size w w'

theorem Ext.trans {a b c : World} (h : Ext a b) (k : Ext b c) : Ext a c := ⟨h.below.trans (k.below.mono h.below.size)⟩
instance Ext.refl (w : World) : Ext w w := ⟨Below.refl _ _⟩
instance Ext.alloc (w w' : World) (o : Obj) [h : Ext w w'] : Ext w (w'.alloc o) := ⟨h.below.alloc h.below.size o⟩
instance Ext.drew (w w' : World) [h : Ext w w'] : Ext w w'.drew := ⟨h.below.drew⟩
instance Ext.drewN (w w' : World) (n : Nat) [h : Ext w w'] : Ext w (w'.drewN n) := ⟨⟨h.below.os, h.below.tape, h.below.output, h.below.size, h.below.block⟩⟩
instance (priority := 50) Ext.step (w W w' : World) [s : Step W w'] [h : Ext w W] : Ext w w' := h.trans ⟨s.below⟩
theorem Ext.setCell {w w' : World} (h : Ext w w') {p : Addr} (hp : w.heap.size ≤ p.block) (u : Value) : Ext w (w'.setCell p u) := ⟨h.below.setCell hp u⟩
instance Ext.setCell0 (w w' : World) (i : Nat) (s : Option Nat) (u : Value) [h : Ext w w'] : Ext w (w'.setCell ⟨w.heap.size, i, s⟩ u) := h.setCell (Nat.le_refl _) u
instance Ext.setCellN (w w' : World) (k i : Nat) (s : Option Nat) (u : Value) [h : Ext w w'] : Ext w (w'.setCell ⟨w.heap.size + k, i, s⟩ u) := h.setCell (Nat.le_add_right _ _) u
instance Ext.setCellN2 (w w' : World) (i : Nat) (s : Option Nat) (u : Value) [h : Ext w w'] : Ext w (w'.setCell ⟨w.heap.size + 1 + 1, i, s⟩ u) := h.setCell (show w.heap.size ≤ w.heap.size + 1 + 1 by omega) u
instance Ext.setCellN3 (w w' : World) (i : Nat) (s : Option Nat) (u : Value) [h : Ext w w'] : Ext w (w'.setCell ⟨w.heap.size + 1 + 1 + 1, i, s⟩ u) := h.setCell (show w.heap.size ≤ w.heap.size + 1 + 1 + 1 by omega) u
instance Ext.setCellA1 (w w' : World) (b0 : Obj) (i : Nat) (s : Option Nat) (u : Value) [h : Ext (w.alloc b0) w'] : Ext (w.alloc b0) (w'.setCell ⟨w.heap.size + 1, i, s⟩ u) := h.setCell (by simp) u
instance Ext.setCellA2 (w w' : World) (b0 b1 : Obj) (i : Nat) (s : Option Nat) (u : Value) [h : Ext ((w.alloc b0).alloc b1) w'] : Ext ((w.alloc b0).alloc b1) (w'.setCell ⟨w.heap.size + 1 + 1, i, s⟩ u) := h.setCell (by simp) u
instance Ext.setCellA3 (w w' : World) (b0 b1 b2 : Obj) (i : Nat) (s : Option Nat) (u : Value) [h : Ext (((w.alloc b0).alloc b1).alloc b2) w'] : Ext (((w.alloc b0).alloc b1).alloc b2) (w'.setCell ⟨w.heap.size + 1 + 1 + 1, i, s⟩ u) := h.setCell (by simp) u
theorem Ext.toStep {w w' : World} (h : Ext w w') : Step w w' := ⟨h.below⟩
theorem Step.of (w w' : World) [h : Ext w w'] : Step w w' := ⟨h.below⟩
theorem Step.ext {w w' : World} (h : Step w w') : Ext w w' := ⟨h.below⟩
theorem Ext.size {w w' : World} (h : Ext w w') : w.heap.size ≤ w'.heap.size := h.below.size
theorem Step.size {w w' : World} (h : Step w w') : w.heap.size ≤ w'.heap.size := h.below.size
theorem Ext.of_eq {w w' : World} (h : w = w') : Ext w w' := h ▸ Ext.refl w

theorem heap_of_ext {w w' : World} (h : Ext w w') {b : Nat} {o : Obj} (hb : w.heap[b]? = some o) : w'.heap[b]? = some o := (h.below.block _ (Array.getElem?_eq_some_iff.1 hb).1).trans hb
/-- The number of blocks, as the walk spells it. -/
class Sz (w : World) (n : outParam Nat) : Prop where
  eq : w.heap.size = n
instance (priority := 10) Sz.base (w : World) : Sz w w.heap.size := ⟨rfl⟩
instance Sz.alloc (w : World) (n : Nat) (o : Obj) [h : Sz w n] : Sz (w.alloc o) (n + 1) := ⟨by simp [h.eq]⟩
instance Sz.setCell (w : World) (n : Nat) (p : Addr) (u : Value) [h : Sz w n] : Sz (w.setCell p u) n := ⟨by simp [World.setCell, h.eq]⟩
instance Sz.drew (w : World) (n : Nat) [h : Sz w n] : Sz w.drew n := ⟨h.eq⟩
instance Sz.drewN (w : World) (n k : Nat) [h : Sz w n] : Sz (w.drewN k) n := ⟨h.eq⟩
/-- Block b is there. -/
class Old (b : Nat) (w : World) : Prop where
  lt : b < w.heap.size
instance Old.new (w : World) (n : Nat) (o : Obj) [h : Sz w n] : Old n (w.alloc o) := ⟨by simp [h.eq]⟩
instance Old.alloc (w : World) (b : Nat) (o : Obj) [h : Old b w] : Old b (w.alloc o) := ⟨by have := h.lt; simp; omega⟩
instance Old.setCell (w : World) (b : Nat) (p : Addr) (u : Value) [h : Old b w] : Old b (w.setCell p u) := ⟨by simpa [World.setCell] using h.lt⟩
instance Old.drew (w : World) (b : Nat) [h : Old b w] : Old b w.drew := ⟨h.lt⟩
instance Old.drewN (w : World) (b k : Nat) [h : Old b w] : Old b (w.drewN k) := ⟨h.lt⟩
instance (priority := 50) Old.step (W w' : World) (b : Nat) [s : Step W w'] [h : Old b W] : Old b w' := ⟨Nat.lt_of_lt_of_le h.lt s.size⟩
/-- Other words for cell? and frozen?, so that the two rules below are no mere exchange of names. -/
def cellOf (w : World) (b o : Nat) : Option Value := w.cell? ⟨b, o, none⟩
def frozenOf (w : World) (b o : Nat) : Bool := w.frozen? ⟨b, o, none⟩
theorem cellOf_eq (w : World) (b o : Nat) : cellOf w b o = w.cell? ⟨b, o, none⟩ := rfl
theorem frozenOf_eq (w : World) (b o : Nat) : frozenOf w b o = w.frozen? ⟨b, o, none⟩ := rfl
/-- What lay in memory before a call lies there behind it. -/
theorem cell_step {W w' : World} {b o : Nat} [s : Step W w'] [h : Old b W] : w'.cell? ⟨b, o, none⟩ = cellOf W b o := s.below.cell (p := ⟨b, o, none⟩) h.lt
theorem frozen_step {W w' : World} {b o : Nat} [s : Step W w'] [h : Old b W] : w'.frozen? ⟨b, o, none⟩ = frozenOf W b o := s.below.frozen (p := ⟨b, o, none⟩) h.lt
theorem cell_alloc_old {w : World} {o : Obj} {b i : Nat} [h : Old b w] : (w.alloc o).cell? ⟨b, i, none⟩ = cellOf w b i := World.cell?_alloc_lt w o ⟨b, i, none⟩ h.lt
theorem frozen_alloc_old {w : World} {o : Obj} {b i : Nat} [h : Old b w] : (w.alloc o).frozen? ⟨b, i, none⟩ = frozenOf w b i := by
  show (w.alloc o).frozen? ⟨b, i, none⟩ = w.frozen? ⟨b, i, none⟩
  unfold World.frozen?
  rw [Below.heap_alloc w o b h.lt]
/-- The same from a world that is named. -/
theorem cellE (W : World) {w' : World} {b o : Nat} [hx : Ext W w'] [h : Old b W] : w'.cell? ⟨b, o, none⟩ = cellOf W b o := hx.below.cell (p := ⟨b, o, none⟩) h.lt
theorem frozenE (W : World) {w' : World} {b o : Nat} [hx : Ext W w'] [h : Old b W] : w'.frozen? ⟨b, o, none⟩ = frozenOf W b o := hx.below.frozen (p := ⟨b, o, none⟩) h.lt
/-- Two blocks that differ. -/
class Apart (a b : Nat) : Prop where
  ne : a ≠ b
instance Apart.old (W : World) (b : Nat) [h : Old b W] : Apart b W.heap.size := ⟨Nat.ne_of_lt h.lt⟩
instance Apart.old' (W : World) (b : Nat) [h : Old b W] : Apart W.heap.size b := ⟨fun e => Nat.ne_of_lt h.lt e.symm⟩
instance Apart.old1 (W : World) (b : Nat) [h : Old b W] : Apart b (W.heap.size + 1) := ⟨fun e => by have := h.lt; omega⟩
instance Apart.old1' (W : World) (b : Nat) [h : Old b W] : Apart (W.heap.size + 1) b := ⟨fun e => by have := h.lt; omega⟩
theorem cell_setCell_apart {w : World} {p i q j : Nat} {u : Value} [h : Apart q p] : (w.setCell ⟨p, i, none⟩ u).cell? ⟨q, j, none⟩ = cellOf w q j :=
  World.cell?_of_block (w := w) (Below.heap_setCell w ⟨p, i, none⟩ u q h.ne)
attribute [go_sem] cell_step frozen_step cellOf_eq frozenOf_eq cell_alloc_old frozen_alloc_old cell_setCell_apart
/-- Block b was not there in w. -/
class New (b : Nat) (w : World) : Prop where
  le : w.heap.size ≤ b
instance New.at_ (w w' : World) [h : Ext w w'] : New w'.heap.size w := ⟨h.below.size⟩
instance New.sz (w : World) (n : Nat) [h : Sz w n] : New n w := ⟨by rw [h.eq]; exact Nat.le_refl _⟩
instance New.succ (w : World) (b : Nat) [h : New b w] : New (b + 1) w := ⟨Nat.le_succ_of_le h.le⟩
instance (priority := 60) Ext.setCellNew (w w' : World) (b i : Nat) (s : Option Nat) (u : Value) [h : Ext w w'] [hn : New b w] : Ext w (w'.setCell ⟨b, i, s⟩ u) := h.setCell hn.le u
theorem size_step {W w' : World} {b : Nat} [h : Old b w'] : b < w'.heap.size := h.lt
/-- A box of two cells that the call made, in a later world. -/
theorem box2 (w w' : World) (x y : Value) (T : TypeId) [h : Ext (w.alloc (.cells #[x, y] T)) w'] :
    w'.heap[w.heap.size]? = some (.cells #[x, y] T (0, 0)) ∧ w'.cell? ⟨w.heap.size, 0, none⟩ = some x ∧ w'.cell? ⟨w.heap.size, 1, none⟩ = some y ∧ w'.frozen? ⟨w.heap.size, 0, none⟩ = false ∧ w'.frozen? ⟨w.heap.size, 1, none⟩ = false ∧ w.heap.size < w'.heap.size := by
  have h0 : w'.heap[w.heap.size]? = some (.cells #[x, y] T (0, 0)) := heap_of_ext h (heap_alloc_new w _)
  exact ⟨h0, by simp [World.cell?, h0], by simp [World.cell?, h0], by simp [World.frozen?, h0], by simp [World.frozen?, h0], (Array.getElem?_eq_some_iff.1 h0).1⟩

theorem box2At (W w' : World) (s : Nat) (x y : Value) (T : TypeId) (hs : W.heap.size = s) [h : Ext (W.alloc (.cells #[x, y] T)) w'] :
    w'.heap[s]? = some (.cells #[x, y] T (0, 0)) ∧ w'.cell? ⟨s, 0, none⟩ = some x ∧ w'.cell? ⟨s, 1, none⟩ = some y ∧ w'.frozen? ⟨s, 0, none⟩ = false ∧ w'.frozen? ⟨s, 1, none⟩ = false ∧ s < w'.heap.size := by
  subst hs; exact box2 W w' x y T
/-- The second box of two cells, behind one other block. -/
theorem box2_1 (w w' : World) (b0 : Obj) (x y : Value) (T : TypeId) [h : Ext ((w.alloc b0).alloc (.cells #[x, y] T)) w'] :
    w'.heap[w.heap.size + 1]? = some (.cells #[x, y] T (0, 0)) ∧ w'.cell? ⟨w.heap.size + 1, 0, none⟩ = some x ∧ w'.cell? ⟨w.heap.size + 1, 1, none⟩ = some y ∧ w'.frozen? ⟨w.heap.size + 1, 0, none⟩ = false ∧ w'.frozen? ⟨w.heap.size + 1, 1, none⟩ = false ∧ w.heap.size + 1 < w'.heap.size :=
  box2At (w.alloc b0) w' _ x y T (by simp)
/-- The third box of two cells, behind two other blocks. -/
theorem box2_2 (w w' : World) (b0 b1 : Obj) (x y : Value) (T : TypeId) [h : Ext (((w.alloc b0).alloc b1).alloc (.cells #[x, y] T)) w'] :
    w'.heap[w.heap.size + 1 + 1]? = some (.cells #[x, y] T (0, 0)) ∧ w'.cell? ⟨w.heap.size + 1 + 1, 0, none⟩ = some x ∧ w'.cell? ⟨w.heap.size + 1 + 1, 1, none⟩ = some y ∧ w'.frozen? ⟨w.heap.size + 1 + 1, 0, none⟩ = false ∧ w'.frozen? ⟨w.heap.size + 1 + 1, 1, none⟩ = false ∧ w.heap.size + 1 + 1 < w'.heap.size :=
  box2At ((w.alloc b0).alloc b1) w' _ x y T (by simp)
theorem boxes2 (w w' : World) (x y x' y' : Value) (T T' : TypeId) [h : Ext ((w.alloc (.cells #[x, y] T)).alloc (.cells #[x', y'] T')) w'] :
    w'.cell? ⟨w.heap.size, 0, none⟩ = some x ∧ w'.cell? ⟨w.heap.size, 1, none⟩ = some y ∧ w'.cell? ⟨w.heap.size + 1, 0, none⟩ = some x' ∧ w'.cell? ⟨w.heap.size + 1, 1, none⟩ = some y' := by
  have h1 : Ext (w.alloc (.cells #[x, y] T)) w' := Ext.trans inferInstance h
  obtain ⟨_, a1, a2, _⟩ := box2 w w' x y T
  obtain ⟨_, b1, b2, _⟩ := box2_1 w w' (.cells #[x, y] T) x' y' T'
  exact ⟨a1, a2, b1, b2⟩
theorem box1 (w w' : World) (x y : Value) (T : TypeId) [h : Ext (w.alloc (.cells #[x, y] T)) w'] :
    w'.cell? ⟨w.heap.size, 0, none⟩ = some x ∧ w'.cell? ⟨w.heap.size, 1, none⟩ = some y := by
  obtain ⟨_, a1, a2, _⟩ := box2 w w' x y T
  exact ⟨a1, a2⟩

/-- The slice with address A has the cells vs; its block has element type e. -/
def Arr (w : World) (A : Option Addr) (e : TypeId) (vs : List Value) : Prop :=
  0 < vs.length → ∃ (b o : Nat) (cs : Array Value) (fr : Nat × Nat), A = some ⟨b, o, none⟩ ∧ w.heap[b]? = some (.cells cs e fr) ∧ ∀ (j : Nat) (u : Value), vs[j]? = some u → cs[o + j]? = some u

theorem lt_of_heap {w : World} {b : Nat} {o : Obj} (h : w.heap[b]? = some o) : b < w.heap.size := (Array.getElem?_eq_some_iff.1 h).1

section
variable {w w' : World} {A : Option Addr} {e : TypeId} {vs : List Value}
theorem Arr.nil : Arr w A e [] := fun h => absurd h (by simp)
theorem Arr.keep (h : Arr w A e vs) (hk : ∀ (b : Nat) (cs : Array Value) (fr : Nat × Nat), w.heap[b]? = some (Obj.cells cs e fr) → w'.heap[b]? = w.heap[b]?) : Arr w' A e vs := fun h0 => by
  obtain ⟨b, o, cs, fr, rfl, hb, hc⟩ := h h0
  exact ⟨b, o, cs, fr, rfl, (hk _ _ _ hb).trans hb, hc⟩
theorem Arr.ext (h : Arr w A e vs) (hx : Ext w w') : Arr w' A e vs := h.keep fun _ _ _ hb => hx.below.block _ (lt_of_heap hb)
theorem Arr.setCell (h : Arr w A e vs) {p : Addr} {cs : Array Value} {e' : TypeId} {fr : Nat × Nat} (hp : w.heap[p.block]? = some (.cells cs e' fr)) (hne : e ≠ e') (u : Value) : Arr (w.setCell p u) A e vs :=
  h.keep fun b cs' fr' hb => Below.heap_setCell w p u b (fun hh => by subst hh; rw [hp] at hb; injection hb with hb; injection hb with _ he; exact hne he.symm)
theorem Arr.at_ (h : Arr w A e vs) {i : Nat} {u : Value} (hu : vs[i]? = some u) : ∃ b o, A = some ⟨b, o, none⟩ ∧ w.cell? ⟨b, o + i, none⟩ = some u ∧ b < w.heap.size := by
  have hl : 0 < vs.length := by
    rcases Nat.eq_zero_or_pos vs.length with h0 | h0
    · have := List.eq_nil_of_length_eq_zero h0; subst this; simp at hu
    · exact h0
  obtain ⟨b, o, cs, fr, rfl, hb, hc⟩ := h hl
  exact ⟨b, o, rfl, by rw [cell_of_row w b (o + i) cs e fr hb]; exact hc i u hu, lt_of_heap hb⟩
end

theorem Arr.new (w : World) (e : TypeId) (cs : Array Value) : Arr (w.alloc (.cells cs e)) (some ⟨w.heap.size, 0, none⟩) e cs.toList := fun _ =>
  ⟨w.heap.size, 0, cs, (0, 0), rfl, heap_alloc_new w _, fun j u hu => by simpa using hu⟩

theorem heap_setCell_self' {w : World} {s i : Nat} {cs : Array Value} {T : TypeId} (q : w.heap[s]? = some (.cells cs T (0, 0))) (u : Value) : (w.setCell ⟨s, i, none⟩ u).heap[s]? = some (.cells (cs.setIfInBounds i u) T (0, 0)) := by
  simp [World.setCell, Array.getElem?_modify, q]
/-- A slice of integers of one kind. -/
def Ints (w : World) (A : Option Addr) (e : TypeId) (k : IntKind) (l : List Int) : Prop := Arr w A e (l.map (Value.int k))
section
variable {w w' : World} {A : Option Addr} {e : TypeId} {k : IntKind} {l : List Int}
theorem Ints.nil : Ints w A e k [] := Arr.nil
theorem Ints.ext (h : Ints w A e k l) (hx : Ext w w') : Ints w' A e k l := Arr.ext h hx
theorem Ints.at_ (h : Ints w A e k l) {i : Nat} (hi : i < l.length) : ∃ b o x, A = some ⟨b, o, none⟩ ∧ l[i]? = some x ∧ w.cell? ⟨b, o + i, none⟩ = some (.int k x) ∧ b < w.heap.size := by
  obtain ⟨b, o, h1, h2, h3⟩ := Arr.at_ h (i := i) (u := .int k l[i]) (by simp [hi])
  exact ⟨b, o, l[i], h1, by simp [hi], h2, h3⟩
theorem Ints.at0 (h : Ints w A e k l) (hi : 0 < l.length) : ∃ b o x, A = some ⟨b, o, none⟩ ∧ l[0]? = some x ∧ w.cell? ⟨b, o, none⟩ = some (.int k x) ∧ b < w.heap.size := by
  simpa using h.at_ hi
theorem Ints.take (h : Ints w A e k l) (m : Nat) : Ints w A e k (l.take m) := fun h0 => by
  obtain ⟨b, o, cs, fr, hA, hb, hc⟩ := h (by simp at h0 ⊢; omega)
  refine ⟨b, o, cs, fr, hA, hb, fun j u hu => hc j u ?_⟩
  rw [List.getElem?_map, List.getElem?_take] at hu
  rw [List.getElem?_map]
  split at hu
  · exact hu
  · simp at hu
end

/-! ## A row of integers that the call made: known whole -/
def Row (w : World) (g : Nat) (e : TypeId) (k : IntKind) (l : List Int) : Prop := w.heap[g]? = some (.cells (l.map (Value.int k)).toArray e (0, 0))
section
variable {w w' : World} {g : Nat} {e : TypeId} {k : IntKind} {l : List Int}
theorem Row.lt (h : Row w g e k l) : g < w.heap.size := lt_of_heap h
theorem Row.cell (h : Row w g e k l) {i : Nat} (hi : i < l.length) : ∃ x, l[i]? = some x ∧ w.cell? ⟨g, i, none⟩ = some (.int k x) := by
  refine ⟨l[i], by simp [hi], ?_⟩
  rw [cell_of_row w g i _ e (0, 0) h]
  simp [hi]
theorem Row.frozen (h : Row w g e k l) (i : Nat) : w.frozen? ⟨g, i, none⟩ = false := by
  unfold Row at h
  simp [World.frozen?, h]
theorem Row.set (h : Row w g e k l) (i : Nat) (x : Int) : Row (w.setCell ⟨g, i, none⟩ (.int k x)) g e k (l.set i x) := by
  unfold Row at h ⊢
  rw [heap_setCell_self' h]
  simp [List.map_set]
theorem Row.ext (h : Row w g e k l) (hx : Ext w w') : Row w' g e k l := heap_of_ext hx h
theorem Row.ints (h : Row w g e k l) : Ints w (some ⟨g, 0, none⟩) e k l := fun _ => ⟨g, 0, _, _, rfl, h, fun j u hu => by simpa using hu⟩
theorem Row.far (h : Row w g e k l) {p : Addr} (hp : g ≠ p.block) (u : Value) : Row (w.setCell p u) g e k l := (Below.heap_setCell w p u g hp).trans h
end
/-- What make lays: zeros. -/
def mkRow (n : Nat) (k : IntKind) : Array Value := ((List.replicate n (0 : Int)).map (Value.int k)).toArray
theorem Row.made (w : World) (n : Nat) (k : IntKind) (e : TypeId) : Row (w.alloc (.cells (mkRow n k) e)) w.heap.size e k (List.replicate n 0) := heap_alloc_new w _
theorem run_make_ints {P : Program} {t e : TypeId} {k : IntKind} {by_ : Nat} (ht : P.underlying t = some (.slice e)) (hi : (P.info? e).map (fun i => (i.zero, i.size, i.bytes)) = some (some (.int k 0), 1, by_)) (h8 : by_ ≤ 8)
    (n : Int) (h0 : 0 ≤ n) (h1 : n ≤ 35184372088832) (w : World) :
    (Instr.makeSlice t (.int .i64 n) (.int .i64 n)).run P w = .ok (.slice (some ⟨w.heap.size, 0, none⟩) n.toNat n.toNat) (w.alloc (.cells (mkRow n.toNat k) e)) := by
  obtain ⟨i, hi1, hz, hs, hb⟩ := info_parts hi
  have hb' : (i.bytes : Int) * n ≤ 8 * n := Int.mul_le_mul_of_nonneg_right (by omega) h0
  rw [run_make (P := P) w t e i (.int k 0) ht hi1 hz .i64 .i64 n n h0 (Int.le_refl _) (by omega) (by omega)]
  rw [hs, Nat.mul_one]
  congr 3
  apply Array.ext'
  show (madeCells #[Value.int k 0] n.toNat).toList = _
  rw [toList_madeCells_one]
  simp [mkRow]
theorem set_fill (s : List Int) (n : Nat) (x : Int) (h : 0 < n) : (s ++ List.replicate n 0).set s.length x = (s ++ [x]) ++ List.replicate (n - 1) 0 := by
  obtain ⟨m, rfl⟩ : ∃ m, n = m + 1 := ⟨n - 1, by omega⟩
  simp [List.replicate_succ]

/-! ## Natural numbers as lists of limbs -/
def B32 : Int := 4294967296
/-- The number of a list of limbs. -/
def val : List Int → Int
  | [] => 0
  | x :: l => x + 4294967296 * val l
/-- All entries are limbs. -/
def Limbs (l : List Int) : Prop := ∀ x ∈ l, 0 ≤ x ∧ x < 4294967296
/-- No zero limb at the end. -/
def Tight (l : List Int) : Prop := l.getLast? ≠ some 0

theorem Limbs.nil : Limbs [] := fun _ h => absurd h (by simp)
theorem Limbs.cons {x : Int} {l : List Int} (hx : 0 ≤ x ∧ x < 4294967296) (h : Limbs l) : Limbs (x :: l) := fun y hy => by
  rcases List.mem_cons.1 hy with rfl | hy
  · exact hx
  · exact h y hy
theorem Limbs.tail {x : Int} {l : List Int} (h : Limbs (x :: l)) : Limbs l := fun y hy => h y (List.mem_cons_of_mem _ hy)
theorem Limbs.head {x : Int} {l : List Int} (h : Limbs (x :: l)) : 0 ≤ x ∧ x < 4294967296 := h x (by simp)
theorem Limbs.get {l : List Int} (h : Limbs l) {i : Nat} {x : Int} (hx : l[i]? = some x) : 0 ≤ x ∧ x < 4294967296 := h x (List.mem_of_getElem? hx)
theorem Limbs.take {l : List Int} (h : Limbs l) (m : Nat) : Limbs (l.take m) := fun x hx => h x (List.mem_of_mem_take hx)
theorem Limbs.drop {l : List Int} (h : Limbs l) (m : Nat) : Limbs (l.drop m) := fun x hx => h x (List.mem_of_mem_drop hx)
theorem Limbs.append {l m : List Int} (h : Limbs l) (h' : Limbs m) : Limbs (l ++ m) := fun x hx => by
  rcases List.mem_append.1 hx with hx | hx
  · exact h x hx
  · exact h' x hx

theorem val_nonneg {l : List Int} (h : Limbs l) : 0 ≤ val l := by
  induction l with
  | nil => simp [val]
  | cons x l ih => have := ih h.tail; have := h.head; simp only [val]; omega
theorem val_append (l m : List Int) : val (l ++ m) = val l + (4294967296 : Int) ^ l.length * val m := by
  induction l with
  | nil => simp [val]
  | cons x l ih =>
    simp only [List.cons_append, val, ih, List.length_cons, Int.pow_succ]
    rw [Int.mul_add, Int.mul_comm ((4294967296 : Int) ^ l.length) 4294967296, Int.mul_assoc, Int.add_assoc]
theorem pow_pos_B (n : Nat) : (0 : Int) < (4294967296 : Int) ^ n := Int.pow_pos (by decide)
theorem val_lt {l : List Int} (h : Limbs l) : val l < (4294967296 : Int) ^ l.length := by
  induction l with
  | nil => simp [val]
  | cons x l ih =>
    have h1 := ih h.tail
    have h2 := h.head
    simp only [val, List.length_cons, Int.pow_succ]
    have := pow_pos_B l.length
    omega
theorem val_snoc (l : List Int) (x : Int) : val (l ++ [x]) = val l + (4294967296 : Int) ^ l.length * x := by
  rw [val_append]; simp [val]
theorem val_take_succ {l : List Int} {i : Nat} {x : Int} (h : l[i]? = some x) : val (l.take (i + 1)) = val (l.take i) + (4294967296 : Int) ^ i * x := by
  have hi : i < l.length := (List.getElem?_eq_some_iff.1 h).1
  have hx : l[i] = x := (List.getElem?_eq_some_iff.1 h).2
  rw [List.take_succ_eq_append_getElem hi, val_snoc, hx, List.length_take, Nat.min_eq_left (by omega)]
theorem pow_mono_B {m n : Nat} (h : m ≤ n) : (4294967296 : Int) ^ m ≤ (4294967296 : Int) ^ n := by
  obtain ⟨k, rfl⟩ : ∃ k, n = m + k := ⟨n - m, by omega⟩
  rw [Int.pow_add]
  have h1 := pow_pos_B m
  have h2 := pow_pos_B k
  have h3 : (4294967296 : Int) ^ m * 1 ≤ (4294967296 : Int) ^ m * (4294967296 : Int) ^ k := Int.mul_le_mul_of_nonneg_left (by omega) (by omega)
  simpa using h3

/-- A tight list of n limbs has a value of at least B^(n-1). -/
theorem tight_lower {l : List Int} (h : Limbs l) (ht : Tight l) (h0 : 0 < l.length) : (4294967296 : Int) ^ (l.length - 1) ≤ val l := by
  obtain ⟨m, x, rfl⟩ : ∃ m x, l = m ++ [x] := ⟨l.dropLast, l.getLast (by intro hh; simp [hh] at h0), (List.dropLast_concat_getLast _).symm⟩
  have hx : x ≠ 0 := by intro hx; subst hx; exact ht (by simp)
  have hx2 := h x (by simp)
  have hm : Limbs m := fun y hy => h y (by simp [hy])
  rw [val_snoc]
  simp only [List.length_append, List.length_cons, List.length_nil, Nat.zero_add, Nat.add_sub_cancel]
  have := val_nonneg hm
  have hp := pow_pos_B m.length
  have : (4294967296 : Int) ^ m.length * 1 ≤ (4294967296 : Int) ^ m.length * x := Int.mul_le_mul_of_nonneg_left (by omega) (by omega)
  omega
theorem tight_zero {l : List Int} (h : Limbs l) (ht : Tight l) : val l = 0 ↔ l = [] := by
  constructor
  · intro hv
    rcases Nat.eq_zero_or_pos l.length with h0 | h0
    · exact List.eq_nil_of_length_eq_zero h0
    · have := tight_lower h ht h0
      have := pow_pos_B (l.length - 1)
      omega
  · rintro rfl; rfl
theorem length_le_of_val {l : List Int} (h : Limbs l) (ht : Tight l) {k : Nat} (hv : val l < (4294967296 : Int) ^ k) : l.length ≤ k := by
  rcases Nat.lt_or_ge k l.length with hlt | hge
  · have h1 := tight_lower h ht (by omega)
    have h2 := pow_mono_B (m := k) (n := l.length - 1) (by omega)
    omega
  · exact hge
theorem Tight.nil : Tight [] := by simp [Tight]

/-- The limbs of an integer of any size: canonical. -/
def IntV (w : World) (neg : Bool) (A : Option Addr) (n c : Nat) (z : Int) : Prop :=
  ∃ l : List Int, n = l.length ∧ Limbs l ∧ Tight l ∧ val l = z.natAbs ∧ neg = decide (z < 0) ∧ Ints w A 237 .u32 l ∧ n ≤ c ∧ c ≤ 9223372036854775807
theorem IntV.ext {w w' : World} {neg : Bool} {A : Option Addr} {n c : Nat} {z : Int} (h : IntV w neg A n c z) (hx : Ext w w') : IntV w' neg A n c z := by
  obtain ⟨l, h1, h2, h3, h4, h5, h6, h7⟩ := h
  exact ⟨l, h1, h2, h3, h4, h5, h6.ext hx, h7⟩
theorem IntV.to {w w' : World} {neg : Bool} {A : Option Addr} {n c : Nat} {z : Int} (h : IntV w neg A n c z) [hx : Ext w w'] : IntV w' neg A n c z := h.ext hx
theorem IntV.zero (w : World) (A : Option Addr) (c : Nat) (hc : c ≤ 9223372036854775807) : IntV w false A 0 c 0 := ⟨[], rfl, Limbs.nil, Tight.nil, rfl, rfl, Ints.nil, Nat.zero_le _, hc⟩
theorem IntV.len {w : World} {neg : Bool} {A : Option Addr} {n c : Nat} {z : Int} (h : IntV w neg A n c z) {k : Nat} (hz : (z.natAbs : Int) < (4294967296 : Int) ^ k) : n ≤ k := by
  obtain ⟨l, rfl, h2, h3, h4, _⟩ := h
  exact length_le_of_val h2 h3 (by rw [h4]; exact hz)
theorem IntV.setCell {w : World} {neg : Bool} {A : Option Addr} {n c : Nat} {z : Int} (h : IntV w neg A n c z) {p : Addr} {cs : Array Value} {e' : TypeId} {fr : Nat × Nat} (hp : w.heap[p.block]? = some (.cells cs e' fr)) (hne : 237 ≠ e') (u : Value) : IntV (w.setCell p u) neg A n c z := by
  obtain ⟨l, h1, h2, h3, h4, h5, h6, h7⟩ := h
  exact ⟨l, h1, h2, h3, h4, h5, Arr.setCell h6 hp hne u, h7⟩
theorem heap_setCell_self {w : World} {s i : Nat} {cs : Array Value} {T : TypeId} (q : w.heap[s]? = some (.cells cs T (0, 0))) (u : Value) : (w.setCell ⟨s, i, none⟩ u).heap[s]? = some (.cells (cs.setIfInBounds i u) T (0, 0)) := by
  simp [World.setCell, Array.getElem?_modify, q]
theorem IntV.boxed {w : World} {g : Bool} {B : Option Addr} {k d : Nat} {z : Int} (hz : IntV w g B k d z) {s : Nat} {cs : Array Value} {T : TypeId} (hT : 237 ≠ T) (q : w.heap[s]? = some (.cells cs T (0, 0))) (u v : Value) :
    IntV ((w.setCell ⟨s, 0, none⟩ u).setCell ⟨s, 1, none⟩ v) g B k d z :=
  (hz.setCell (p := ⟨s, 0, none⟩) q hT u).setCell (p := ⟨s, 1, none⟩) (heap_setCell_self q u) hT v

/-! ## Stores into blocks of another type, found by instances -/
/-- Block b has element type e. -/
class Typed (b : Nat) (e : outParam TypeId) (w : World) : Prop where
  ex : ∃ cs fr, w.heap[b]? = some (.cells cs e fr)
instance Typed.new (w : World) (n : Nat) (cs : Array Value) (e : TypeId) [h : Sz w n] : Typed n e (w.alloc (.cells cs e)) := ⟨cs, (0, 0), by rw [← h.eq]; exact heap_alloc_new w _⟩
instance Typed.alloc (w : World) (b : Nat) (e : TypeId) (o : Obj) [h : Typed b e w] : Typed b e (w.alloc o) := by
  obtain ⟨cs, fr, hb⟩ := h.ex
  exact ⟨cs, fr, (Below.heap_alloc w o b (lt_of_heap hb)).trans hb⟩
instance Typed.setCell (w : World) (b : Nat) (e : TypeId) (p : Addr) (u : Value) [h : Typed b e w] : Typed b e (w.setCell p u) := by
  obtain ⟨cs, fr, hb⟩ := h.ex
  by_cases hp : b = p.block
  · subst hp
    refine ⟨if p.spot.isSome then cs else cs.setIfInBounds p.off u, fr, ?_⟩
    simp [World.setCell, Array.getElem?_modify, hb]
  · exact ⟨cs, fr, (Below.heap_setCell w p u b hp).trans hb⟩
instance Typed.drew (w : World) (b : Nat) (e : TypeId) [h : Typed b e w] : Typed b e w.drew := ⟨h.ex⟩
instance Typed.drewN (w : World) (b k : Nat) (e : TypeId) [h : Typed b e w] : Typed b e (w.drewN k) := ⟨h.ex⟩
instance (priority := 50) Typed.step (W w' : World) (b : Nat) (e : TypeId) [s : Step W w'] [h : Typed b e W] : Typed b e w' := by
  obtain ⟨cs, fr, hb⟩ := h.ex
  exact ⟨cs, fr, heap_of_ext s.ext hb⟩
/-- Two types that differ. -/
class TNe (e e' : TypeId) : Prop where
  ne : e ≠ e'
instance TNe.u32_Int : TNe 237 158 := ⟨by decide⟩
instance TNe.u32_slInt : TNe 237 152 := ⟨by decide⟩
instance TNe.u32_slslInt : TNe 237 160 := ⟨by decide⟩
instance TNe.Int_slInt : TNe 158 152 := ⟨by decide⟩
instance TNe.Int_slslInt : TNe 158 160 := ⟨by decide⟩
instance TNe.slInt_slslInt : TNe 152 160 := ⟨by decide⟩
/-- What has element type e lies in w' as it lay in w. -/
class Keeps (e : TypeId) (w w' : World) : Prop where
  keep : ∀ (b : Nat) (cs : Array Value) (fr : Nat × Nat), w.heap[b]? = some (Obj.cells cs e fr) → w'.heap[b]? = some (Obj.cells cs e fr)
instance Keeps.refl (e : TypeId) (w : World) : Keeps e w w := ⟨fun _ _ _ h => h⟩
instance Keeps.alloc (e : TypeId) (w w' : World) (o : Obj) [h : Keeps e w w'] : Keeps e w (w'.alloc o) := ⟨fun b cs fr hb => by
  have := h.keep b cs fr hb
  exact (Below.heap_alloc w' o b (lt_of_heap this)).trans this⟩
instance Keeps.drew (e : TypeId) (w w' : World) [h : Keeps e w w'] : Keeps e w w'.drew := ⟨h.keep⟩
instance Keeps.drewN (e : TypeId) (w w' : World) (n : Nat) [h : Keeps e w w'] : Keeps e w (w'.drewN n) := ⟨h.keep⟩
instance (priority := 50) Keeps.step (e : TypeId) (w W w' : World) [s : Step W w'] [h : Keeps e w W] : Keeps e w w' := ⟨fun b cs fr hb => heap_of_ext s.ext (h.keep b cs fr hb)⟩
instance Keeps.setCell (e e' : TypeId) (w w' : World) (b i : Nat) (s : Option Nat) (u : Value) [h : Keeps e w w'] [ht : Typed b e' w'] [hn : TNe e e'] : Keeps e w (w'.setCell ⟨b, i, s⟩ u) := ⟨fun q cs fr hq => by
  have h1 := h.keep q cs fr hq
  obtain ⟨cs', fr', hb⟩ := ht.ex
  refine (Below.heap_setCell w' ⟨b, i, s⟩ u q (fun hh => ?_)).trans h1
  subst hh
  rw [h1] at hb
  injection hb with hb
  injection hb with _ he
  exact hn.ne he⟩
theorem Arr.keeps {w w' : World} {A : Option Addr} {e : TypeId} {vs : List Value} (h : Arr w A e vs) [hk : Keeps e w w'] : Arr w' A e vs := fun h0 => by
  obtain ⟨b, o, cs, fr, rfl, hb, hc⟩ := h h0
  exact ⟨b, o, cs, fr, rfl, hk.keep _ _ _ hb, hc⟩
theorem IntV.keeps {w w' : World} {neg : Bool} {A : Option Addr} {n c : Nat} {z : Int} (h : IntV w neg A n c z) [hk : Keeps 237 w w'] : IntV w' neg A n c z := by
  obtain ⟨l, h1, h2, h3, h4, h5, h6, h7⟩ := h
  exact ⟨l, h1, h2, h3, h4, h5, Arr.keeps h6, h7⟩

/-! ## Results, behind definitions (the walk would take an open '∃' apart) -/
/-- An integer of any size is returned; the world is extended. -/
def RetInt (w : World) (z : Int) (e : Ending) (w' : World) : Prop := ∃ g B n d, e = .returned (.agg #[.bool g, .slice B n d]) ∧ IntV w' g B n d z ∧ Step w w'
/-- A natural number as a slice of limbs is returned. -/
def RetNat (w : World) (z : Int) (e : Ending) (w' : World) : Prop := ∃ B d l, e = .returned (.slice B (List.length l) d) ∧ Ints w' B 237 .u32 l ∧ Limbs l ∧ Tight l ∧ val l = z ∧ l.length ≤ d ∧ d ≤ 9223372036854775807 ∧ Step w w'
/-- A value is returned; the world is extended. -/
def RetVal (w : World) (v : Value) (e : Ending) (w' : World) : Prop := e = .returned v ∧ Step w w'
/-- A value is returned; the world is as it was. -/
def RetSame (w : World) (v : Value) (e : Ending) (w' : World) : Prop := e = .returned v ∧ w = w'
/-- A sign. -/
def sgn (neg : Bool) (z : Int) : Int := if neg then -z else z
end Go.Proofs.YtaaldapmkhamlaaGreat

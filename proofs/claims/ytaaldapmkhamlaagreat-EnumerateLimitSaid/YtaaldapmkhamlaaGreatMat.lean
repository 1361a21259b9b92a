/-
  Words for matrices in memory: rows of any values that the call made (VRow), slices of integers of any size (IntsV), matrices (MatV, Mat64), lists of matrices (StV); make; calls of function values.
-/
import Derived.Test.YtaaldapmkhamlaaGreatInt3
namespace Go.Proofs.YtaaldapmkhamlaaGreat
open Go.RowKit

theorem infoInt : (Tryz.prog.info? 158).map (fun i => (i.zero, i.size, i.bytes)) = some (some (.agg #[.bool false, .slice none 0 0]), 2, 32) := by kernel_rfl
theorem infoSlInt : (Tryz.prog.info? 152).map (fun i => (i.zero, i.size, i.bytes)) = some (some (.slice none 0 0), 1, 24) := by kernel_rfl
theorem infoSlSlInt : (Tryz.prog.info? 160).map (fun i => (i.zero, i.size, i.bytes)) = some (some (.slice none 0 0), 1, 24) := by kernel_rfl
theorem infoI64 : (Tryz.prog.info? 2).map (fun i => (i.zero, i.size, i.bytes)) = some (some (.int .i64 0), 1, 8) := by kernel_rfl
theorem infoInt_ : (Tryz.prog.info? 3).map (fun i => (i.zero, i.size, i.bytes)) = some (some (.int .i64 0), 1, 8) := by kernel_rfl
theorem infoSlI64 : (Tryz.prog.info? 22).map (fun i => (i.zero, i.size, i.bytes)) = some (some (.slice none 0 0), 1, 24) := by kernel_rfl

/-! ## A row of any values that the call made: known whole -/
def VRow (w : World) (g : Nat) (e : TypeId) (vs : List Value) : Prop := w.heap[g]? = some (.cells vs.toArray e (0, 0))
section
variable {w w' : World} {g : Nat} {e : TypeId} {vs : List Value}
theorem VRow.lt (h : VRow w g e vs) : g < w.heap.size := lt_of_heap h
theorem VRow.cell (h : VRow w g e vs) {i : Nat} {u : Value} (hu : vs[i]? = some u) : w.cell? ⟨g, i, none⟩ = some u := by
  rw [cell_of_row w g i _ e (0, 0) h]; simpa using hu
theorem VRow.frozen (h : VRow w g e vs) (i : Nat) : w.frozen? ⟨g, i, none⟩ = false := by
  unfold VRow at h
  simp [World.frozen?, h]
theorem VRow.set (h : VRow w g e vs) (i : Nat) (u : Value) : VRow (w.setCell ⟨g, i, none⟩ u) g e (vs.set i u) := by
  unfold VRow at h ⊢
  rw [heap_setCell_self' h]
  simp
theorem VRow.ext (h : VRow w g e vs) (hx : Ext w w') : VRow w' g e vs := heap_of_ext hx h
theorem VRow.far (h : VRow w g e vs) {p : Addr} (hp : g ≠ p.block) (u : Value) : VRow (w.setCell p u) g e vs := (Below.heap_setCell w p u g hp).trans h
theorem VRow.new (w : World) (e : TypeId) (cs : Array Value) : VRow (w.alloc (.cells cs e)) w.heap.size e cs.toList := heap_alloc_new w _
theorem VRow.arr (h : VRow w g e vs) : Arr w (some ⟨g, 0, none⟩) e vs := fun _ => ⟨g, 0, _, _, rfl, h, fun j u hu => by simpa using hu⟩
theorem VRow.drewN (h : VRow w g e vs) (n : Nat) : VRow (w.drewN n) g e vs := h
end
/-- What make lays. -/
def mkCells (z : Array Value) (n : Nat) : Array Value := madeCells z n
theorem run_make_any {P : Program} {t e : TypeId} {z : Value} {size by_ : Nat} (ht : P.underlying t = some (.slice e)) (hi : (P.info? e).map (fun i => (i.zero, i.size, i.bytes)) = some (some z, size, by_)) (h8 : by_ ≤ 128)
    (n : Int) (h0 : 0 ≤ n) (h1 : n ≤ 1099511627776) (w : World) :
    (Instr.makeSlice t (.int .i64 n) (.int .i64 n)).run P w = .ok (.slice (some ⟨w.heap.size, 0, none⟩) n.toNat n.toNat) (w.alloc (.cells (mkCells z.cells (n.toNat * size)) e)) := by
  obtain ⟨i, hi1, hz, hs, hb⟩ := info_parts hi
  have hb' : (i.bytes : Int) * n ≤ 128 * n := Int.mul_le_mul_of_nonneg_right (by omega) h0
  rw [run_make (P := P) w t e i z ht hi1 hz .i64 .i64 n n h0 (Int.le_refl _) (by omega) (by omega), hs]
  rfl
theorem mkCells_size (z : Array Value) (n : Nat) : (mkCells z n).toList.length = n := by simp [mkCells, size_madeCells]
theorem mkCells_one (z : Value) (n : Nat) : (mkCells #[z] n).toList = List.replicate n z := toList_madeCells_one z n
theorem mkCells_get (z : Array Value) (n i : Nat) (hi : i < n) (hz : 0 < z.size) : (mkCells z n).toList[i]? = some (z[i % z.size]'(Nat.mod_lt _ hz)) := by
  simp [mkCells, madeCells, hi, Nat.mod_lt _ hz]

/-! ## Calls of function values -/
/-- f is a function with a body: a call of a function value enters it. -/
def IsFn (f : FuncId) : Prop := ∀ (args : Array Value) (w : World), (callFunc f args).run Tryz.prog w = .ok (.enter f args) w
theorem isFn_of {f : FuncId} {fn : Func} (hf : Tryz.prog.funcs[f]? = some fn) (hname : (fn.name == "runtime.NumGoroutine") = false) (hb : fn.body.isNone = false) : IsFn f := fun args w => by
  have h1 : fn.name ≠ "runtime.NumGoroutine" := by simpa using hname
  have h2 : ¬ fn.body = none := by intro h; rw [h] at hb; simp at hb
  simp [callFunc, hf, h1, h2]

/-! ## Slices of integers of any size; matrices -/
def IntsV (w : World) (A : Option Addr) (zs : List Int) : Prop :=
  ∃ vs : List Value, vs.length = zs.length * 2 ∧ Arr w A 158 vs ∧ ∀ (i : Nat) (z : Int), zs[i]? = some z → ∃ g B n c, vs[i * 2]? = some (.bool g) ∧ vs[i * 2 + 1]? = some (.slice B n c) ∧ IntV w g B n c z
theorem IntsV.ext {w w' : World} {A : Option Addr} {zs : List Int} (h : IntsV w A zs) (hx : Ext w w') : IntsV w' A zs := by
  obtain ⟨vs, h1, h2, h3⟩ := h
  refine ⟨vs, h1, h2.ext hx, fun i z hz => ?_⟩
  obtain ⟨g, B, n, c, a1, a2, a3⟩ := h3 i z hz
  exact ⟨g, B, n, c, a1, a2, a3.ext hx⟩
theorem IntsV.grow {w w' : World} {base : Nat} {e : TypeId} {A : Option Addr} {zs : List Int} (h : IntsV w A zs) (hg : Grow base e w w') (h1 : 158 ≠ e) (h2 : 237 ≠ e) : IntsV w' A zs := by
  obtain ⟨vs, a1, a2, a3⟩ := h
  refine ⟨vs, a1, a2.grow hg h1, fun i z hz => ?_⟩
  obtain ⟨g, B, n, c, b1, b2, b3⟩ := a3 i z hz
  exact ⟨g, B, n, c, b1, b2, b3.grow hg h2⟩
theorem IntsV.at_ {w : World} {A : Option Addr} {zs : List Int} (h : IntsV w A zs) {i : Nat} (hi : i < zs.length) :
    ∃ b o g B n c, A = some ⟨b, o, none⟩ ∧ w.cell? ⟨b, o + i * 2, none⟩ = some (.bool g) ∧ w.cell? ⟨b, o + i * 2 + 1, none⟩ = some (.slice B n c) ∧ IntV w g B n c zs[i] ∧ b < w.heap.size := by
  obtain ⟨vs, a1, a2, a3⟩ := h
  obtain ⟨g, B, n, c, b1, b2, b3⟩ := a3 i zs[i] (by simp [hi])
  obtain ⟨b, o, rfl, c1, c2⟩ := a2.at_ b1
  obtain ⟨b', o', hh, d1, d2⟩ := a2.at_ b2
  injection hh with hh
  injection hh with h1 h2
  subst h1 h2
  exact ⟨b, o, g, B, n, c, rfl, c1, by rw [Nat.add_assoc]; exact d1, b3, c2⟩
theorem IntsV.nil (w : World) (A : Option Addr) : IntsV w A [] := ⟨[], rfl, Arr.nil, fun i z hz => by simp at hz⟩

def MatV (w : World) (A : Option Addr) (m : List (List Int)) : Prop :=
  ∃ vs : List Value, vs.length = m.length ∧ Arr w A 152 vs ∧ ∀ (i : Nat) (r : List Int), m[i]? = some r → ∃ B c, vs[i]? = some (.slice B r.length c) ∧ IntsV w B r ∧ r.length ≤ c ∧ c ≤ 9223372036854775807
theorem MatV.ext {w w' : World} {A : Option Addr} {m : List (List Int)} (h : MatV w A m) (hx : Ext w w') : MatV w' A m := by
  obtain ⟨vs, h1, h2, h3⟩ := h
  refine ⟨vs, h1, h2.ext hx, fun i z hz => ?_⟩
  obtain ⟨B, c, a1, a2, a3⟩ := h3 i z hz
  exact ⟨B, c, a1, a2.ext hx, a3⟩
theorem MatV.grow {w w' : World} {base : Nat} {e : TypeId} {A : Option Addr} {m : List (List Int)} (h : MatV w A m) (hg : Grow base e w w') (h0 : 152 ≠ e) (h1 : 158 ≠ e) (h2 : 237 ≠ e) : MatV w' A m := by
  obtain ⟨vs, a1, a2, a3⟩ := h
  refine ⟨vs, a1, a2.grow hg h0, fun i z hz => ?_⟩
  obtain ⟨B, c, b1, b2, b3⟩ := a3 i z hz
  exact ⟨B, c, b1, b2.grow hg h1 h2, b3⟩
theorem MatV.at_ {w : World} {A : Option Addr} {m : List (List Int)} (h : MatV w A m) {i : Nat} {r : List Int} (hi : m[i]? = some r) :
    ∃ b o B c, A = some ⟨b, o, none⟩ ∧ w.cell? ⟨b, o + i, none⟩ = some (.slice B r.length c) ∧ IntsV w B r ∧ r.length ≤ c ∧ c ≤ 9223372036854775807 ∧ b < w.heap.size := by
  obtain ⟨vs, a1, a2, a3⟩ := h
  obtain ⟨B, c, b1, b2, b3, b4⟩ := a3 i r hi
  obtain ⟨b, o, hA, hc, hb⟩ := a2.at_ b1
  exact ⟨b, o, B, c, hA, hc, b2, b3, b4, hb⟩

/-- A matrix of int64. -/
def Mat64 (w : World) (A : Option Addr) (m : List (List Int)) : Prop :=
  ∃ vs : List Value, vs.length = m.length ∧ Arr w A 22 vs ∧ ∀ (i : Nat) (r : List Int), m[i]? = some r → ∃ B c, vs[i]? = some (.slice B r.length c) ∧ Ints w B 2 .i64 r ∧ r.length ≤ c ∧ c ≤ 9223372036854775807
theorem Mat64.ext {w w' : World} {A : Option Addr} {m : List (List Int)} (h : Mat64 w A m) (hx : Ext w w') : Mat64 w' A m := by
  obtain ⟨vs, h1, h2, h3⟩ := h
  refine ⟨vs, h1, h2.ext hx, fun i z hz => ?_⟩
  obtain ⟨B, c, a1, a2, a3⟩ := h3 i z hz
  exact ⟨B, c, a1, a2.ext hx, a3⟩
theorem Mat64.grow {w w' : World} {base : Nat} {e : TypeId} {A : Option Addr} {m : List (List Int)} (h : Mat64 w A m) (hg : Grow base e w w') (h0 : 22 ≠ e) (h1 : 2 ≠ e) : Mat64 w' A m := by
  obtain ⟨vs, a1, a2, a3⟩ := h
  refine ⟨vs, a1, a2.grow hg h0, fun i z hz => ?_⟩
  obtain ⟨B, c, b1, b2, b3⟩ := a3 i z hz
  exact ⟨B, c, b1, b2.grow hg h1, b3⟩
theorem Mat64.at_ {w : World} {A : Option Addr} {m : List (List Int)} (h : Mat64 w A m) {i : Nat} {r : List Int} (hi : m[i]? = some r) :
    ∃ b o B c, A = some ⟨b, o, none⟩ ∧ w.cell? ⟨b, o + i, none⟩ = some (.slice B r.length c) ∧ Ints w B 2 .i64 r ∧ r.length ≤ c ∧ c ≤ 9223372036854775807 ∧ b < w.heap.size := by
  obtain ⟨vs, a1, a2, a3⟩ := h
  obtain ⟨B, c, b1, b2, b3, b4⟩ := a3 i r hi
  obtain ⟨b, o, hA, hc, hb⟩ := a2.at_ b1
  exact ⟨b, o, B, c, hA, hc, b2, b3, b4, hb⟩

/-- A list of matrices. -/
def StV (w : World) (A : Option Addr) (s : List (List (List Int))) : Prop :=
  ∃ vs : List Value, vs.length = s.length ∧ Arr w A 160 vs ∧ ∀ (i : Nat) (m : List (List Int)), s[i]? = some m → ∃ B c, vs[i]? = some (.slice B m.length c) ∧ MatV w B m ∧ m.length ≤ c ∧ c ≤ 9223372036854775807
theorem StV.ext {w w' : World} {A : Option Addr} {s : List (List (List Int))} (h : StV w A s) (hx : Ext w w') : StV w' A s := by
  obtain ⟨vs, h1, h2, h3⟩ := h
  refine ⟨vs, h1, h2.ext hx, fun i z hz => ?_⟩
  obtain ⟨B, c, a1, a2, a3⟩ := h3 i z hz
  exact ⟨B, c, a1, a2.ext hx, a3⟩
theorem StV.at_ {w : World} {A : Option Addr} {s : List (List (List Int))} (h : StV w A s) {i : Nat} {m : List (List Int)} (hi : s[i]? = some m) :
    ∃ b o B c, A = some ⟨b, o, none⟩ ∧ w.cell? ⟨b, o + i, none⟩ = some (.slice B m.length c) ∧ MatV w B m ∧ m.length ≤ c ∧ c ≤ 9223372036854775807 ∧ b < w.heap.size := by
  obtain ⟨vs, a1, a2, a3⟩ := h
  obtain ⟨B, c, b1, b2, b3, b4⟩ := a3 i m hi
  obtain ⟨b, o, hA, hc, hb⟩ := a2.at_ b1
  exact ⟨b, o, B, c, hA, hc, b2, b3, b4, hb⟩

/-! ## Grow, step by step -/
section
variable {w w' w2 : World} {base : Nat} {e : TypeId}
theorem Grow.of_ext (h : Ext w w') (hb : base ≤ w.heap.size) : Grow base e w w' := ⟨h.below.mono hb, fun k hk _ => h.below.block k hk⟩
theorem Grow.trans (h : Grow base e w w') (h' : Ext w' w2) (hb : base ≤ w.heap.size) : Grow base e w w2 :=
  ⟨h.below.trans (h'.below.mono (Nat.le_trans hb h.below.size)), fun k hk hne => (h'.below.block k (Nat.lt_of_lt_of_le hk h.below.size)).trans (h.typed k hk hne)⟩
theorem Grow.alloc (h : Grow base e w w') (hb : base ≤ w.heap.size) (o : Obj) : Grow base e w (w'.alloc o) := h.trans inferInstance hb
/-- A store into a new block. -/
theorem Grow.setNew (h : Grow base e w w') {p : Addr} (hp : w.heap.size ≤ p.block) (hb : base ≤ w.heap.size) (u : Value) : Grow base e w (w'.setCell p u) :=
  ⟨h.below.setCell (Nat.le_trans hb hp) u, fun k hk hne => (Below.heap_setCell w' p u k (by omega)).trans (h.typed k hk hne)⟩
/-- A store into the row with element type e. -/
theorem Grow.setOld (h : Grow base e w w') {g : Nat} {cs : Array Value} {fr : Nat × Nat} (hg : w.heap[g]? = some (.cells cs e fr)) (hb : base ≤ g) {p : Addr} (hp : p.block = g) (u : Value) : Grow base e w (w'.setCell p u) :=
  ⟨h.below.setCell (by omega) u, fun k hk hne => (Below.heap_setCell w' p u k (fun hh => by rw [hp] at hh; subst hh; exact hne _ _ hg)).trans (h.typed k hk hne)⟩
end
end Go.Proofs.YtaaldapmkhamlaaGreat

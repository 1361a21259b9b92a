/-
  Contracts of functions of the program, joined: Lat, Cl. No statement of the seat is proved here.
-/
import Derived.Test.YtjehjkipcaohpaaGreatJ11
import Derived.Test.YtjehjkipcaohpaaGreatJ19
import Derived.Lib.SmallJoins
import Derived.ChangeSlices
import Derived.OpenShut
import Derived.Test.YtjehjkipcaohpaaGreatRows
import Derived.WalkKit
import Derived.ProofKit
set_option linter.unusedVariables false
set_option linter.unusedSimpArgs false
set_option linter.constructorNameAsVariable false
namespace Go.Proofs.YtjehjkipcaohpaaGreat
open Go.ChangeShapes Go.WideShapes Go.ChangeAt Go.RowKit Go.Joins
section
variable {H : Type} {enc : TypeId × Value → H} {P : Program} {W W' : World} {sp : Nat → Bool}
theorem cell_below (hb : Below W.heap.size W W') {a : Addr} {v : Value} (h : W.cell? a = some v) : W'.cell? a = some v := by
  unfold World.cell? at h ⊢
  split at h
  · rename_i c t f hc
    have hlt := lt_of_heap hc
    rw [hb.block _ hlt, hc]
    exact h
  · cases h
/-- A slice of integers reads later as it did, if nothing that lay there has changed. -/
theorem ints_stay {t e : TypeId} {k : IntKind} {n : Nat} {v : Value} {y : DataW H × List MemPlace} (ht : P.underlying t = some (.slice e)) (he : P.underlying e = some (.int k)) (hc : P.cellsOf e = 1)
    (h : DataW.trod enc P W 0 (fun _ => true) true n t [v] = some y) (hb : Below W.heap.size W W') (hs : ∀ q ∈ y.2, sp q.block = true) : ∃ n, DataW.trod enc P W' 0 sp true n t [v] = some y := by
  rcases open_ints ht he hc h with ⟨h1, h2⟩ | ⟨a, len, cap, zs, hcs, hb0, hl, hm, hz, hx, hcell, hw⟩
  · injection h1 with h1
    subst h1 h2
    exact field_of_Trod (shut_slice_nil ht) rfl
  · injection hcs with hcs
    subst hcs hx
    rw [if_pos rfl] at hz
    refine ⟨2, shut_ints 0 ht he hc hb0 hl hm ?_ (fun i hi => cell_below hb (hcell i hi)) hw⟩
    by_cases h0 : cap = 0
    · rw [hz]; split <;> omega
    · have hsa : sp a.block = true := hs (.cell a.block (a.off + 0)) (MemPlace.mem_row.2 ⟨0, by omega, rfl⟩)
      rw [if_pos hsa]
      exact hz
/-- The list of a slice of integers, for a walk. -/
theorem ints_open {t e : TypeId} {k : IntKind} {n : Nat} {v : Value} {y : DataW H × List MemPlace} (ht : P.underlying t = some (.slice e)) (he : P.underlying e = some (.int k)) (hc : P.cellsOf e = 1)
    (h : DataW.trod enc P W 0 (fun _ => true) true n t [v] = some y) : ∃ (A : Option Addr) (c : Nat) (l : List Int) (te : TypeId), v = .slice A l.length c ∧ l.length ≤ c ∧ c ≤ 9223372036854775807 ∧ Ints W A te k l ∧ ∀ x ∈ l, (Lit.int k x).wf = true := by
  rcases open_ints ht he hc h with ⟨h1, h2⟩ | ⟨a, len, cap, zs, hcs, hb0, hl, hm, hz, hx, hcell, hw⟩
  · injection h1 with h1
    exact ⟨none, 0, [], 0, by rw [h1]; rfl, Nat.le_refl _, by omega, Ints.nil, by simp⟩
  · injection hcs with hcs
    rw [if_pos rfl] at hz
    have hlen : (zs.take len).length = len := by rw [List.length_take]; omega
    have hm2 : cap ≤ 9223372036854775807 := hm
    by_cases h0 : len = 0
    · refine ⟨some a, cap, [], 0, by rw [hcs, h0]; rfl, by simp, hm2, Ints.nil, by simp⟩
    · have hc0 := hcell 0 (by omega)
      have ha : a.add 0 = a := by simp [Addr.add]
      rw [ha] at hc0
      unfold World.cell? at hc0
      split at hc0
      · rename_i c te fr hbl
        split at hc0
        · cases hc0
        rename_i hsp
        obtain ⟨ab, ao, asp⟩ := a
        have has : asp = none := by cases asp <;> simp_all
        subst has
        refine ⟨_, cap, zs.take len, te, by rw [hlen]; exact hcs, by omega, hm2, fun _ => ⟨ab, ao, c, fr, rfl, hbl, fun j u hu => ?_⟩, fun x hx => hw x (List.mem_of_mem_take hx)⟩
        rw [List.getElem?_map, List.getElem?_take] at hu
        split at hu
        · rename_i hj
          have hcj := hcell j (by omega)
          rw [show (⟨ab, ao, none⟩ : Addr).add j = ⟨ab, ao + j, none⟩ by unfold Addr.add; split <;> simp_all] at hcj
          unfold World.cell? at hcj
          simp only [hbl] at hcj
          rw [List.getElem?_eq_getElem (by omega)] at hu
          simp at hu
          subst hu
          have : zs.getD j 0 = zs[j]'(by omega) := by simp [List.getD, show j < zs.length by omega]
          rw [this] at hcj
          simpa using hcj
        · cases hu
      · cases hc0
end
theorem u8_wf {x : Int} (h : (Lit.int .u8 x).wf = true) : 0 ≤ x ∧ x < 256 := by
  have e1 : IntKind.u8.min = 0 := rfl
  have e2 : IntKind.u8.max = 255 := rfl
  simp [Lit.wf] at h
  omega
theorem i8_wf {l : List Int} (h : ∀ x ∈ l, (Lit.int .i8 x).wf = true) : I8 l := fun x hx => by
  have h := h x hx
  have e1 : IntKind.i8.min = -128 := rfl
  have e2 : IntKind.i8.max = 127 := rfl
  simp [Lit.wf] at h
  omega
/-- A lattice as a law gets it. -/
structure Latt (W : World) (v : Value) where
  dim : Int
  kind : Int
  A : Option Addr
  l : List Int
  c : Nat
  B : Option Addr
  b : List Int
  d : Nat
  te : TypeId
  tb : TypeId
  eq : v = .agg #[.int .u8 dim, .int .u8 kind, .slice A l.length c, .slice B b.length d]
  ints : Ints W A te .i8 l
  i8 : I8 l
  len : l.length ≤ 9223372036854775807
  bints : Ints W B tb .i8 b
  bi8 : I8 b
  blen : b.length ≤ 9223372036854775807
  dim0 : 0 ≤ dim
  dim1 : dim < 256
  kind0 : 0 ≤ kind
  kind1 : kind < 256
set_option maxRecDepth 100000 in
theorem open_lattice {H : Type} {enc : TypeId × Value → H} {W : World} {r : Reach} {b0 : Nat} {v : Value} {d : DataW H} {p : List MemPlace} (hv : Value.okWide Tryz.prog W r b0 24 v) (h : DataW.Trod enc Tryz.prog W 0 (fun _ => true) true 24 v d p) :
    Nonempty (Latt W v) ∧ ∀ (W' : World) (sp : Nat → Bool), Below W.heap.size W W' → (∀ q ∈ p, sp q.block = true) → DataW.Trod enc Tryz.prog W' 0 sp true 24 v d p := by
  obtain ⟨v0, v1, v2, v3, y0, y1, y2, y3, n, rfl, rfl, rfl, h0, h1, h2, h3⟩ := open_agg4 Tryz.underlying24 (by kernel_rfl) (by kernel_rfl) hv h
  have hu8 : Tryz.prog.underlying 5 = some (.int .u8) := Tryz.underlying5
  have hsl : Tryz.prog.underlying 22 = some (.slice 62) := Tryz.underlying22
  have hi8 : Tryz.prog.underlying 62 = some (.int .i8) := Tryz.underlying62
  have hce : Tryz.prog.cellsOf 62 = 1 := by kernel_rfl
  obtain ⟨dim, e0, rfl, w0⟩ := DataW.trod_int hu8 h0
  obtain ⟨kind, e1, rfl, w1⟩ := DataW.trod_int hu8 h1
  injection e0 with e0
  injection e1 with e1
  subst e0 e1
  refine ⟨?_, fun W' sp hb hs => ?_⟩
  · obtain ⟨A, c, l, te, e2, k1, k2, hI, h8⟩ := ints_open hsl hi8 hce h2
    obtain ⟨B, c', b, tb, e3, k3, k4, hI', h8'⟩ := ints_open hsl hi8 hce h3
    exact ⟨⟨dim, kind, A, l, c, B, b, c', te, tb, by rw [e2, e3], hI, i8_wf h8, by omega, hI', i8_wf h8', by omega, (u8_wf w0).1, (u8_wf w0).2, (u8_wf w1).1, (u8_wf w1).2⟩⟩
  · exact shut_agg4 Tryz.underlying24 (by kernel_rfl) (by kernel_rfl) (field_of_Trod (shut_int hu8 w0) rfl) (field_of_Trod (shut_int hu8 w1) rfl) (ints_stay hsl hi8 hce h2 hb (fun q hq => hs q (by simp [hq]))) (ints_stay hsl hi8 hce h3 hb (fun q hq => hs q (by simp [hq])))
end Go.Proofs.YtjehjkipcaohpaaGreat
namespace Go.Proofs.YtjehjkipcaohpaaGreat
set_option maxRecDepth 100000
def io : {L : List Char // Tryz.prog.initOrder.toList = L} := ⟨_, (congrArg String.toList (rfl : Tryz.prog.initOrder = String.ofList _)).trans String.toList_ofList⟩
theorem c_later : Tryz.prog.laysLater = false := by kernel_rfl
theorem c_reflect : Tryz.prog.bearsReflect = false := by kernel_rfl
theorem c_doors : Tryz.prog.doorRows = [] := by kernel_rfl
theorem c_words : ∃ rest, behindMainWord (wordsSigns Tryz.prog.initOrder.toList) = "cut".toList :: rest := by
  rw [io.2]
  exact ⟨(behindMainWord (wordsSigns io.1)).tail, by kernel_rfl⟩
theorem make_of {P : Program} {m : Make} {rest : List (List Char)} (h : behindMainWord (wordsSigns P.initOrder.toList) = "cut".toList :: rest) (hm : m = .cut) : (P.make == some m) = true := by
  subst hm
  unfold Program.make
  rw [h]
  kernel_rfl
theorem lifts_of {P : Program} {b : Bool} {rest : List (List Char)} (h : behindMainWord (wordsSigns P.initOrder.toList) = "cut".toList :: rest) (hb : b = false) : (b == P.liftsFinal) = true := by
  subst hb
  unfold Program.liftsFinal Program.headLifts
  rw [h]
  kernel_rfl
theorem may_of {P : Program} {rest : List (List Char)} (h : behindMainWord (wordsSigns P.initOrder.toList) = "cut".toList :: rest) (h1 : P.laysLater = false) (h2 : P.bearsReflect = false) (h3 : P.doorRows = []) : P.mayEnter = true := by
  unfold Program.mayEnter Program.doorFits
  rw [h, h1, h2, h3]
  kernel_rfl
theorem c_may : Tryz.prog.mayEnter = true := by
  obtain ⟨rest, h⟩ := c_words
  exact may_of h c_later c_reflect c_doors
theorem c_make {m : Make} (hm : m = .cut) : (Tryz.prog.make == some m) = true := by
  obtain ⟨rest, h⟩ := c_words
  exact make_of h hm
theorem c_lifts {b : Bool} (hb : b = false) : (b == Tryz.prog.liftsFinal) = true := by
  obtain ⟨rest, h⟩ := c_words
  exact lifts_of h hb
theorem c_laid : laidOutB Tryz.prog = true := by kernel_rfl
theorem and_mk {a b : Bool} (ha : a = true) (hb : b = true) : (a && b) = true := by rw [ha, hb]; rfl
end Go.Proofs.YtjehjkipcaohpaaGreat

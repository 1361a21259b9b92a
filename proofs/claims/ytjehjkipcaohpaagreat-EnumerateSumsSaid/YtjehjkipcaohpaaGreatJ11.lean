/-
  Contracts of functions of the program, joined: Coll, Enum, Fix, Awk11, Post, Red1. No statement of the seat is proved here.
-/
import Derived.Test.YtjehjkipcaohpaaGreatJ10
import Derived.Test.YtjehjkipcaohpaaGreatJ01
import Derived.ProofKit
import Derived.OpenShut
set_option linter.unusedVariables false
set_option linter.unusedSimpArgs false
set_option linter.constructorNameAsVariable false
namespace Go.Proofs.YtjehjkipcaohpaaGreat
open Go.RowKit
/-- What collect returns. -/
def collL (m : List (List Int)) (bound : Int) (exact : Bool) : List (List Int) :=
  if m.length = 1 then multL (ent m 0 0) bound exact (isq (bound / ent m 0 0).toNat)
  else searchL (minorsTo m m.length) (lamTo m m.length) exact (m.length - 1) (vD (minorsTo m m.length) m.length * bound) true []
theorem isq_bounds {h bound : Int} (h1 : 1 ≤ h) (hb : 0 ≤ bound) : (∀ x : Int, 1 ≤ x → x ≤ (isq (bound / h).toNat : Nat) → h * x * x ≤ bound) ∧ bound < h * ((isq (bound / h).toNat : Nat) + 1 : Int) * ((isq (bound / h).toNat : Nat) + 1) := by
  obtain ⟨s1, s2⟩ := isq_spec (bound / h).toNat
  obtain ⟨r, hr⟩ : ∃ r, r = isq (bound / h).toNat := ⟨_, rfl⟩
  rw [← hr] at s1 s2 ⊢
  have q0 := Int.ediv_nonneg hb (show 0 ≤ h by omega)
  have e1 := Int.mul_ediv_add_emod bound h
  have e2 := Int.emod_nonneg bound (show h ≠ 0 by omega)
  have e3 := Int.emod_lt_of_pos bound (show 0 < h by omega)
  have s1' : (r : Int) * r ≤ bound / h := by
    have : ((r * r : Nat) : Int) ≤ bound / h := by omega
    simpa using this
  have s2' : bound / h + 1 ≤ ((r : Int) + 1) * (r + 1) := by
    have : bound / h + 1 ≤ (((r + 1) * (r + 1) : Nat) : Int) := by omega
    simpa using this
  refine ⟨fun x h1x hxr => ?_, ?_⟩
  · have a1 : x * x ≤ (r : Int) * r := Int.mul_le_mul hxr hxr (by omega) (by omega)
    have a2 : h * (x * x) ≤ h * (bound / h) := Int.mul_le_mul_of_nonneg_left (by omega) (by omega)
    rw [Int.mul_assoc]; omega
  · have a2 : h * (bound / h + 1) ≤ h * (((r : Int) + 1) * (r + 1)) := Int.mul_le_mul_of_nonneg_left s2' (by omega)
    rw [Int.mul_add, Int.mul_one] at a2
    rw [Int.mul_assoc]; omega
theorem box1c (w w' : World) (x : Value) (T : TypeId) [h : Ext (w.alloc (.cells #[x] T)) w'] : w'.cell? ⟨w.heap.size, 0, none⟩ = some x := by
  have h0 : w'.heap[w.heap.size]? = some (.cells #[x] T (0, 0)) := heap_of_ext h (heap_alloc_new w _)
  simp [World.cell?, h0]
set_option maxHeartbeats 1000000 in
theorem collect_one {w0 w : World} {A : Option Addr} {c : Nat} {m : List (List Int)} {bound : Int} {exact : Bool} (h : Mat64 w0 A m) (hm : m.length = 1) (hl : AllLen m 1) (h1 : 1 ≤ ent m 0 0) (h2 : ent m 0 0 < 65536) (hb : 0 ≤ bound) (hr : isq (bound / ent m 0 0).toNat ≤ 1048576) [hx : Ext w0 w] :
    Calls Tryz.prog 52 #[.slice A m.length c, .int .i64 bound, .bool exact] w (RetMatL w (collL m bound exact)) := by
  obtain ⟨hin, hout⟩ := isq_bounds h1 hb
  obtain ⟨r, hre⟩ : ∃ r, r = isq (bound / ent m 0 0).toNat := ⟨_, rfl⟩
  have HC : Hid (collL m bound exact = multL (ent m 0 0) bound exact r) := Lib.hid (by rw [collL, if_pos hm, hre])
  rw [HC.out]
  rw [← hre] at hin hout hr
  obtain ⟨r0, hr0⟩ : ∃ r0, m[0]? = some r0 := ⟨_, List.getElem?_eq_getElem (by omega)⟩
  obtain ⟨b, o, B, c1, rfl, e1, f1, f2, f3, f4⟩ := h.at_ hr0
  have hrl : r0.length = 1 := hl r0 (List.mem_of_getElem? hr0)
  obtain ⟨b2, o2, a, rfl, ha, g1, g2⟩ := f1.at0 (by omega)
  have hae : ent m 0 0 = a := by unfold ent; simp [hr0, ha]
  rw [hae] at h1 h2 hin hout ⊢
  rw [hrl] at e1 f2
  rw [hm]
  have k1 : a * ((r : Int) + 1) ≤ 65535 * 1048577 := Int.mul_le_mul (by omega) (by omega) (by omega) (by omega)
  have k0 : 0 ≤ a * ((r : Int) + 1) := Int.mul_nonneg (by omega) (by omega)
  have k2 : a * ((r : Int) + 1) * ((r : Int) + 1) ≤ 65535 * 1048577 * 1048577 := Int.mul_le_mul k1 (by omega) (by omega) (by omega)
  have hc := fun W => multiples_any (w := W) (exact := exact) r h1 (by omega) hin hout (by omega) (by omega)
  have HM := Lib.hid hc
  clear hc hin hout k1 k0 k2 hre hrl hae ha hr0 hm
  have ob : Old b w0 := ⟨f4⟩
  have ob2 : Old b2 w0 := ⟨g2⟩
  simp only [Nat.add_zero] at e1
  have E1 := fun W (hh : Ext w0 W) => (cellE w0 (w' := W) (b := b) (o := o)).trans e1
  have E2 := fun W (hh : Ext w0 W) => (cellE w0 (w' := W) (b := b2) (o := o2)).trans g1
  have HE1 := Lib.hid E1
  have HE2 := Lib.hid E2
  clear E1 E2 e1 g1
  go_enter Tryz.func52, Tryz.ntmps52
  go_wp2
  go_region_held3 (fun w' => w'.cell? ⟨b, o, none⟩ = some (.slice (some ⟨b2, o2, none⟩) 1 c1) ∧ w'.cell? ⟨b2, o2, none⟩ = some (.int .i64 a) ∧ w'.cell? ⟨w.heap.size, 0, none⟩ = some (.bool exact)) (exact ⟨HE1.out _ inferInstance, HE2.out _ inferInstance, box1c w _ _ 4⟩)
    ((go_at_call 79; refine (HM.out _).mono ?_; rintro e w2 ⟨A2, c2, rfl, hM2, l1, l2, hs2⟩))
  go_wp2
  go_ret
  exact ⟨A2, c2, rfl, hM2, l1, l2, Step.of _ _⟩
theorem XRow.drew {w : World} {sz n k : Nat} {tail : List Int} (h : XRow w sz n k tail) : XRow w.drew sz n k tail := h
theorem SMem.drew {w1 W : World} {n : Nat} {mA lA : Option Addr} {mc lc eb : Nat} {exact : Bool} {lB : Option Addr} {c : Nat} {l : List (List Int)} {vs : List Value} (h : SMem w1 W n mA lA mc lc eb exact lB c l vs) : SMem w1 W.drew n mA lA mc lc eb exact lB c l vs where
  ext := have := h.ext; inferInstance
  fb := h.fb
  xb := h.xb
  lb := h.lb
  sb := h.sb
  ebl := h.ebl
  ec := h.ec
  ls := have := h.ext; h.ls.ext (Ext.drew W W)
  sz := h.sz
/-- The world in which the search begins. -/
theorem SMem.start {w1 : World} {n mc lc eb : Nat} {mA lA : Option Addr} {exact : Bool} (hn : 1 ≤ n) (heb : eb < w1.heap.size) (hec : w1.cell? ⟨eb, 0, none⟩ = some (.bool exact)) :
    XRow (((((w1.alloc (.cells #[.slice mA (n + 1) mc, .slice lA n lc] 121)).alloc (.cells (mkCells #[.int .i64 0] n) 2)).alloc (.cells #[.slice (some ⟨w1.heap.size + 1, 0, none⟩) n n] 37)).alloc (.cells #[.slice none 0 0] 26)).alloc (.cells #[.func (.func 81) #[] #[.pointer (some ⟨w1.heap.size, 0, none⟩), .pointer (some ⟨w1.heap.size + 1 + 1, 0, none⟩), .pointer (some ⟨w1.heap.size + 1 + 1 + 1 + 1, 0, none⟩), .pointer (some ⟨eb, 0, none⟩), .pointer (some ⟨w1.heap.size + 1 + 1 + 1, 0, none⟩)]] 123)) (w1.heap.size + 1) n (n - 1) [] ∧
    SMem w1 (((((w1.alloc (.cells #[.slice mA (n + 1) mc, .slice lA n lc] 121)).alloc (.cells (mkCells #[.int .i64 0] n) 2)).alloc (.cells #[.slice (some ⟨w1.heap.size + 1, 0, none⟩) n n] 37)).alloc (.cells #[.slice none 0 0] 26)).alloc (.cells #[.func (.func 81) #[] #[.pointer (some ⟨w1.heap.size, 0, none⟩), .pointer (some ⟨w1.heap.size + 1 + 1, 0, none⟩), .pointer (some ⟨w1.heap.size + 1 + 1 + 1 + 1, 0, none⟩), .pointer (some ⟨eb, 0, none⟩), .pointer (some ⟨w1.heap.size + 1 + 1 + 1, 0, none⟩)]] 123)) n mA lA mc lc eb exact none 0 [] [] := by
  generalize e1 : w1.alloc (.cells #[.slice mA (n + 1) mc, .slice lA n lc] 121) = W1
  generalize e2 : W1.alloc (.cells (mkCells #[.int .i64 0] n) 2) = W2
  generalize e3 : W2.alloc (.cells #[.slice (some ⟨w1.heap.size + 1, 0, none⟩) n n] 37) = W3
  generalize e4 : W3.alloc (.cells #[.slice none 0 0] 26) = W4
  generalize e5 : W4.alloc (.cells #[.func (.func 81) #[] #[.pointer (some ⟨w1.heap.size, 0, none⟩), .pointer (some ⟨w1.heap.size + 1 + 1, 0, none⟩), .pointer (some ⟨w1.heap.size + 1 + 1 + 1 + 1, 0, none⟩), .pointer (some ⟨eb, 0, none⟩), .pointer (some ⟨w1.heap.size + 1 + 1 + 1, 0, none⟩)]] 123) = W5
  have s1 : W1.heap.size = w1.heap.size + 1 := by rw [← e1, World.size_alloc]
  have s2 : W2.heap.size = w1.heap.size + 2 := by rw [← e2, World.size_alloc, s1]
  have s3 : W3.heap.size = w1.heap.size + 3 := by rw [← e3, World.size_alloc, s2]
  have s4 : W4.heap.size = w1.heap.size + 4 := by rw [← e4, World.size_alloc, s3]
  have s5 : W5.heap.size = w1.heap.size + 5 := by rw [← e5, World.size_alloc, s4]
  have x1 : Ext w1 W1 := by rw [← e1]; infer_instance
  have x2 : Ext W1 W2 := by rw [← e2]; infer_instance
  have x3 : Ext W2 W3 := by rw [← e3]; infer_instance
  have x4 : Ext W3 W4 := by rw [← e4]; infer_instance
  have x5 : Ext W4 W5 := by rw [← e5]; infer_instance
  have h1 := heap_alloc_new w1 (.cells #[.slice mA (n + 1) mc, .slice lA n lc] 121)
  have h2 := heap_alloc_new W1 (.cells (mkCells #[.int .i64 0] n) 2)
  have h3 := heap_alloc_new W2 (.cells #[.slice (some ⟨w1.heap.size + 1, 0, none⟩) n n] 37)
  have h4 := heap_alloc_new W3 (.cells #[.slice none 0 0] 26)
  have h5 := heap_alloc_new W4 (.cells #[.func (.func 81) #[] #[.pointer (some ⟨w1.heap.size, 0, none⟩), .pointer (some ⟨w1.heap.size + 1 + 1, 0, none⟩), .pointer (some ⟨w1.heap.size + 1 + 1 + 1 + 1, 0, none⟩), .pointer (some ⟨eb, 0, none⟩), .pointer (some ⟨w1.heap.size + 1 + 1 + 1, 0, none⟩)]] 123)
  rw [e1] at h1
  rw [e2, s1] at h2
  rw [e3, s2] at h3
  rw [e4, s3] at h4
  rw [e5, s4] at h5
  have x35 := x4.trans x5
  have x25 := x3.trans x35
  have x15 := x2.trans x25
  refine ⟨⟨List.replicate n 0, ?_, by simp, by simp; omega⟩, x1.trans x15, heap_of_ext x15 h1, heap_of_ext x35 h3, heap_of_ext x5 h4, h5, heb, hec, LOwn.nil _ _, by omega⟩
  have : (mkCells #[.int .i64 0] n) = ((List.replicate n (0 : Int)).map (Value.int .i64)).toArray := by
    apply Array.ext'
    rw [mkCells_one]; simp
  rw [this] at h2
  exact heap_of_ext x25 h2
set_option maxHeartbeats 1000000 in
theorem collect_many {w0 w : World} {A : Option Addr} {c : Nat} {m : List (List Int)} {bound : Int} {exact : Bool} (h : Mat64 w0 A m) (h2 : 2 ≤ m.length) (hf : FormOK m) (h64 : St64 m) (hb0 : 0 ≤ bound) (hb1 : bound < 1073741824) (hlen : (searchL (minorsTo m m.length) (lamTo m m.length) exact (m.length - 1) (vD (minorsTo m m.length) m.length * bound) true []).length ≤ 1073741824) [hx : Ext w0 w] :
    Calls Tryz.prog 52 #[.slice A m.length c, .int .i64 bound, .bool exact] w (RetMatL w (searchL (minorsTo m m.length) (lamTo m m.length) exact (m.length - 1) (vD (minorsTo m m.length) m.length * bound) true [])) := by
  have hN := hf.num bound hb0 hb1
  have h8 := hN.n8
  have hnf := fun W (hh : Ext w0 W) => newForm_any (w := W) (c := c) h hf.len1 h8 hf.all hf.fits hf.elim h64
  have hDl : (minorsTo m m.length).length = m.length + 1 := minorsTo_length m _
  have hLl : (lamTo m m.length).length = m.length := by simp [lamTo]
  obtain ⟨D, hD⟩ : ∃ D, D = minorsTo m m.length := ⟨_, rfl⟩
  obtain ⟨L, hL⟩ : ∃ L, L = lamTo m m.length := ⟨_, rfl⟩
  rw [← hD, ← hL] at hnf hN hlen ⊢
  rw [← hD] at hDl
  rw [← hL] at hLl
  unfold RetForm at hnf
  rw [hDl, hLl] at hnf
  obtain ⟨n, hn⟩ : ∃ n, n = m.length := ⟨_, rfl⟩
  rw [← hn] at hnf hN hDl hLl h2 h8 hlen ⊢
  obtain ⟨dn, hdn⟩ : ∃ dn, dn = vD D n := ⟨_, rfl⟩
  have e1 := hN.d1 n (by omega)
  have e2 := hN.d2 n (by omega)
  rw [← hdn] at e1 e2 hlen ⊢
  have hm1 : 0 ≤ dn * bound := Int.mul_nonneg (by omega) (by omega)
  have hm2 : dn * bound ≤ 65535 * 1073741823 := Int.mul_le_mul (by omega) (by omega) (by omega) (by omega)
  have hlev : LevOK D n bound (n - 1) (dn * bound) [] := ⟨by omega, hm1, by rw [show n - 1 + 1 = n by omega, hdn]; exact Int.le_refl _, by simp, by simp [absSum]⟩
  obtain ⟨rest, hrest⟩ : ∃ rest, dn * bound = rest := ⟨_, rfl⟩
  rw [hrest] at hm1 hm2 hlev hlen ⊢
  have hdi : D[n]? = some dn := by rw [hdn]; unfold vD; simp [show n < D.length by omega]
  have HNF := Lib.hid hnf
  have HDL := Lib.hid hDl
  have HLEV := Lib.hid hlev
  have HLEN := Lib.hid hlen
  have HDI := Lib.hid hdi
  have hne : ((n : Int) == 1) = false := by simp; omega
  have hmk := run_make_any (P := Tryz.prog) Tryz.underlying37 infoI64 (by omega) (n : Int) (by omega) (by omega)
  clear hnf hD hL hn hDl hLl hlev hdi hdn hlen hf h64
  go_enter Tryz.func52, Tryz.ntmps52
  go_wp2_with (go_at_call 80; refine (HNF.out _ inferInstance).mono ?_; clear HNF; rintro e w1 ⟨mA, mc, lA, lc, rfl, hD, hL, d1, d2, d3, d4, hs1⟩)
  have heb : w.heap.size < w1.heap.size := by have := hs1.size; simp at this; omega
  have hec : w1.cell? ⟨w.heap.size, 0, none⟩ = some (.bool exact) := box1c w _ _ 4
  obtain ⟨hX, hM⟩ := SMem.start (mA := mA) (lA := lA) (mc := mc) (lc := lc) (n := n) (by omega) heb hec
  generalize (((((w1.alloc (.cells #[.slice mA (n + 1) mc, .slice lA n lc] 121)).alloc (.cells (mkCells #[.int .i64 0] n) 2)).alloc (.cells #[.slice (some ⟨w1.heap.size + 1, 0, none⟩) n n] 37)).alloc (.cells #[.slice none 0 0] 26)).alloc (.cells #[.func (.func 81) #[] #[.pointer (some ⟨w1.heap.size, 0, none⟩), .pointer (some ⟨w1.heap.size + 1 + 1, 0, none⟩), .pointer (some ⟨w1.heap.size + 1 + 1 + 1 + 1, 0, none⟩), .pointer (some ⟨w.heap.size, 0, none⟩), .pointer (some ⟨w1.heap.size + 1 + 1 + 1, 0, none⟩)]] 123)) = W at hX hM ⊢
  obtain ⟨f1, f2, f3, f4, f5⟩ := box_cells2 hM.fb
  have sb1 : W.cell? ⟨w1.heap.size + 1 + 1 + 1 + 1, 0, none⟩ = some (.func (.func 81) #[] #[.pointer (some ⟨w1.heap.size, 0, none⟩), .pointer (some ⟨w1.heap.size + 1 + 1, 0, none⟩), .pointer (some ⟨w1.heap.size + 1 + 1 + 1 + 1, 0, none⟩), .pointer (some ⟨w.heap.size, 0, none⟩), .pointer (some ⟨w1.heap.size + 1 + 1 + 1, 0, none⟩)]) := by
    have : W.cell? ⟨w1.heap.size + 4, 0, none⟩ = some (.func (.func 81) #[] (sCaps w1.heap.size w.heap.size)) := by simp [World.cell?, hM.sb]
    exact this
  obtain ⟨bm, om, -, rfl, -⟩ := hD.at_ (i := n) (by have := HDL.out; omega)
  obtain ⟨m3, m4⟩ := ints_cell (hD.ext hM.ext) HDI.out
  have hcall := fun (W' : World) hX' hM' => search_any (exact := exact) (eb := w.heap.size) hD hL d1 d2 d3 d4 hN (n - 1) rest true [] W' none 0 [] [] HLEV.out (fun _ => rfl) hX' hM' (by rw [List.nil_append]; exact HLEN.out)
  rw [show ((n - 1 : Nat) : Int) = (n : Int) - 1 by omega, List.nil_append] at hcall
  unfold sCaps at hcall
  simp only [List.append_toArray, List.cons_append, List.nil_append] at hcall
  have HC := Lib.hid hcall
  have hfn := isFn_search
  unfold IsFn at hfn
  have HX := Lib.hid hX
  have HM := Lib.hid hM
  have w1e : IntKind.i64.wrap ((n : Int) - 1) = (n : Int) - 1 := IntWalk.i64_in _ (by omega)
  have w2e : IntKind.i64.wrap rest = rest := IntWalk.i64_in _ (by omega)
  clear hcall hX hM
  go_region_with (refine (HC.out _ HX.out.drew HM.out.drew).mono ?_; rintro e W3 ⟨rfl, hX4, lB4, c4, vs4, hM4⟩)
  all_goals (
    have lb4 : W3.cell? ⟨w1.heap.size + 1 + 1 + 1, 0, none⟩ = some (.slice lB4 (searchL D L exact (n - 1) rest true []).length c4) := by
      have : W3.cell? ⟨w1.heap.size + 3, 0, none⟩ = some (.slice lB4 (searchL D L exact (n - 1) rest true []).length c4) := by simp [World.cell?, hM4.lb]
      exact this
    have hlt4 : w1.heap.size + 1 + 1 + 1 < W3.heap.size := by have := hM4.sz; omega
    have hfin : RetMatL w (searchL D L exact (n - 1) rest true []) (.returned (.slice lB4 (searchL D L exact (n - 1) rest true []).length c4)) W3 := by
      have hc := hM4.ls.own.cap
      have hxw : Ext w w1 := inferInstance
      exact ⟨lB4, c4, rfl, hM4.ls.mat, hc.1, hc.2, (hxw.trans hM4.ext).toStep⟩
    have HF := Lib.hid hfin
    clear hfin hM4 hX4
    generalize (searchL D L exact (n - 1) rest true []).length = ln at lb4 HF ⊢
    go_wp2
    go_ret
    exact HF.out)
theorem collect_any {w0 w : World} {A : Option Addr} {c : Nat} {m : List (List Int)} {bound : Int} {exact : Bool} (h : Mat64 w0 A m) (hf : FormOK m) (h64 : St64 m) (hb0 : 0 ≤ bound) (hb1 : 1 < m.length → bound < 1073741824) (hr : m.length = 1 → isq (bound / ent m 0 0).toNat ≤ 1048576) (hlen : (collL m bound exact).length ≤ 1073741824) [hx : Ext w0 w] :
    Calls Tryz.prog 52 #[.slice A m.length c, .int .i64 bound, .bool exact] w (RetMatL w (collL m bound exact)) := by
  have h1 := hf.len1
  by_cases hm : m.length = 1
  · have hN := hf.num 0 (by omega) (by omega)
    have d1 := hN.d1 1 (by omega)
    have d2 := hN.d2 1 (by omega)
    have e : vD (minorsTo m m.length) 1 = ent m 0 0 := by rw [hm]; simp [vD, minorsTo, stAt]
    rw [e] at d1 d2
    exact collect_one h hm (by have := hf.all; rwa [hm] at this) d1 d2 hb0 (hr hm)
  · have e : collL m bound exact = searchL (minorsTo m m.length) (lamTo m m.length) exact (m.length - 1) (vD (minorsTo m m.length) m.length * bound) true [] := by rw [collL, if_neg hm]
    rw [e] at hlen ⊢
    exact collect_many h (by omega) hf h64 hb0 (hb1 (by omega)) hlen
end Go.Proofs.YtjehjkipcaohpaaGreat
namespace Go.Proofs.YtjehjkipcaohpaaGreat
open Go.RowKit
/-- The number of steps of full length. -/
def lastOf (st : List Int) : Int := st.getD (st.length - 1) 0
theorem pairs_any {w0 w : World} {A : Option Addr} {c : Nat} {st : List Int} (h : Ints w0 A 3 .i64 st) (h1 : 1 ≤ st.length) (h2 : st.length ≤ 1099511627776) (l1 : 1 ≤ lastOf st) (l2 : lastOf st ≤ 1099511627776) [hx : Ext w0 w] :
    Calls Tryz.prog 50 #[.slice A st.length c] w (RetSame w (.int .i64 ((lastOf st - 1) / 2))) := by
  obtain ⟨b, o, x, rfl, hx', g1, g2⟩ := (h.ext hx).at_ (i := st.length - 1) (by omega)
  have he : lastOf st = x := by unfold lastOf; simp [hx']
  rw [he] at l1 l2 ⊢
  obtain ⟨n, hn⟩ : ∃ n, st.length = n + 1 := ⟨st.length - 1, by omega⟩
  rw [hn] at h2 g1 ⊢
  simp only [Nat.add_sub_cancel] at g1
  clear hn he hx' h h1
  go_enter Tryz.func50, Tryz.ntmps50
  go_wp2
  go_ret
  exact ⟨rfl, rfl⟩
/-- What makes the enumeration of a form run to its end. -/
structure EnumOK (m : List (List Int)) (bound : Int) (exact : Bool) : Prop where
  form : FormOK m
  s64 : St64 m
  red : RedM m
  b0 : 0 ≤ bound
  b1 : 1 < m.length → bound < 1073741824
  one : m.length = 1 → isq (bound / ent m 0 0).toNat ≤ 1048576
  len : (collL m bound exact).length ≤ 1073741824
  vec : ∀ x ∈ collL m bound exact, VecOK m x
  nd : ((collL m bound exact).map canonL).Nodup
def RetVecs (w : World) (m ls : List (List Int)) (total : Int) (e : Ending) (w' : World) : Prop := ∃ A c L, e = .returned (.tuple #[.slice A (List.length L) c, .int .i64 total, .int .i64 0]) ∧ Mat64 w' A L ∧ L.length ≤ c ∧ c ≤ 9223372036854775807 ∧ L.Perm (ls.map canonL) ∧ L.Pairwise (fun x y => cmpK (nrm m x) (nrm m y) x y < 0) ∧ Step w w'
def RetShell (w : World) (m ls : List (List Int)) (e : Ending) (w' : World) : Prop := ∃ A c L, e = .returned (.tuple #[.slice A (List.length L) c, .int .i64 0]) ∧ Mat64 w' A L ∧ L.length ≤ c ∧ c ≤ 9223372036854775807 ∧ L.Perm (ls.map canonL) ∧ L.Pairwise (fun x y => cmpK (nrm m x) (nrm m y) x y < 0) ∧ Step w w'
theorem Vectors_big {w0 w : World} {A : Option Addr} {c : Nat} {m : List (List Int)} {bound budget : Int} {st : List Int} (h : Mat64 w0 A m) (hlen : m.length ≤ 1099511627776) (hc : m.length ≤ c) (hc2 : c ≤ 9223372036854775807) (hf : isRedB m = true → FormOK m) (hs : stepsSpec m bound budget = (st, 0)) (h1 : 1 ≤ st.length) (h2 : st.length ≤ 1099511627776) (l1 : 1 ≤ lastOf st) (l2 : lastOf st ≤ 1099511627776) (hbig : 4096 < (lastOf st - 1) / 2) [hx : Ext w0 w] :
    Calls Tryz.prog 23 #[.slice A m.length c, .int .i64 bound, .int .i64 budget] w (RetVal w (.tuple #[.slice none 0 0, .int .i64 0, .int .i64 7])) := by
  have hst := fun W (hh : Ext w0 W) => Steps_any (w := W) (bound := bound) (budget := budget) h hlen hc hc2 hf
  rw [hs] at hst
  have HST := Lib.hid hst
  have hpa := fun W A' c' (hI : Ints W A' 3 .i64 st) => pairs_any (w := W) (c := c') hI h1 h2 l1 l2
  have HP := Lib.hid hpa
  obtain ⟨q, hq⟩ : ∃ q, (lastOf st - 1) / 2 = q := ⟨_, rfl⟩
  rw [hq] at HP hbig
  have hb' : decide (4096 < q) = true := by simpa using hbig
  clear hst hpa hs hq hf
  go_enter Tryz.func23, Tryz.ntmps23
  go_wp2_with (first
    | (go_at_call 49; refine (HST.out _ inferInstance).mono ?_; rintro e w1 ⟨A1, c1, rfl, hI, k1, k2, hs1⟩)
    | (go_at_call 50; refine (HP.out _ _ _ hI).mono ?_; rintro e w2 ⟨rfl, rfl⟩))
  go_ret3
  exact ⟨rfl, Step.of _ _⟩
theorem sum_take_succ (l : List Int) (k : Nat) (x : Int) (h : l[k]? = some x) : (l.take (k + 1)).sum = (l.take k).sum + x := by
  rw [List.take_add_one, h]; simp
theorem sum_take_bound (l : List Int) (hb : ∀ x ∈ l, 0 ≤ x ∧ x ≤ 1099511627776) (k : Nat) : 0 ≤ (l.take k).sum ∧ (l.take k).sum ≤ k * 1099511627776 := by
  induction k with
  | zero => simp
  | succ k ih =>
    cases h : l[k]? with
    | none => rw [List.take_add_one, h]; simp; omega
    | some x =>
      rw [sum_take_succ l k x h]
      have := hb x (List.mem_of_getElem? h)
      omega
set_option maxHeartbeats 1000000 in
theorem Vectors_ok {w0 w : World} {A : Option Addr} {c : Nat} {m : List (List Int)} {bound budget : Int} {st : List Int} (h : Mat64 w0 A m) (hc : m.length ≤ c) (hc2 : c ≤ 9223372036854775807) (hok : EnumOK m bound false) (hs : stepsSpec m bound budget = (st, 0)) (h1 : 1 ≤ st.length) (h2 : st.length ≤ 8) (l1 : 1 ≤ lastOf st) (hb : ∀ x ∈ st, 0 ≤ x ∧ x ≤ 1099511627776) (hsm : (lastOf st - 1) / 2 ≤ 4096) [hx : Ext w0 w] :
    Calls Tryz.prog 23 #[.slice A m.length c, .int .i64 bound, .int .i64 budget] w (RetVecs w m (collL m bound false) st.sum) := by
  have hn8 := hok.red.n8
  have l2 : lastOf st ≤ 1099511627776 := by omega
  have hst := fun W (hh : Ext w0 W) => Steps_any (w := W) (bound := bound) (budget := budget) h (by omega) hc hc2 (fun _ => hok.form)
  rw [hs] at hst
  have HST := Lib.hid hst
  have hpa := fun W A' c' (hI : Ints W A' 3 .i64 st) => pairs_any (w := W) (c := c') hI h1 (by omega) l1 l2
  have HP := Lib.hid hpa
  obtain ⟨q, hq⟩ : ∃ q, (lastOf st - 1) / 2 = q := ⟨_, rfl⟩
  rw [hq] at HP hsm
  have hb' : decide (4096 < q) = false := by simp; omega
  have hco := fun W (hh : Ext w0 W) => collect_any (w := W) (c := c) h hok.form hok.s64 hok.b0 hok.b1 hok.one hok.len
  have HCO := Lib.hid hco
  have hso := fun W X d (hh : Ext w0 W) (hX : Mat64 W X (collL m bound false)) => SortUnique_ok (w0 := W) (w := W) (c := c) (d := d) (h.ext hh) hc hc2 hX hok.len hok.red hok.vec hok.nd
  have HSO := Lib.hid hso
  obtain ⟨ls, hls⟩ : ∃ ls, collL m bound false = ls := ⟨_, rfl⟩
  rw [hls] at HCO HSO ⊢
  have HB := Lib.hid hb
  clear hst hpa hs hq hco hso hls hok hb
  go_enter Tryz.func23, Tryz.ntmps23
  go_wp2_with (first
    | (go_at_call 49; refine (HST.out _ inferInstance).mono ?_; rintro e w1 ⟨A1, c1, rfl, hI, k1, k2, hs1⟩)
    | (go_at_call 50; refine (HP.out _ _ _ hI).mono ?_; rintro e w2 ⟨rfl, rfl⟩))
  go_loop [11, 13, 31] (fun s _ i => ∃ k : Nat, k ≤ st.length ∧ i = .int .i64 k ∧ s = .int .i64 (st.take k).sum) (fun _ _ i => st.length - (intOf i).toNat)
  case atStart => exact ⟨0, by omega, rfl, by simp⟩
  case round =>
    obtain ⟨k, hk, rfl, rfl⟩ := hrel
    have hbd := sum_take_bound st HB.out k
    by_cases hlt : k < st.length
    · obtain ⟨b, o, x, rfl, hx', g1, g2⟩ := hI.at_ hlt
      have hxb := HB.out x (List.mem_of_getElem? hx')
      have HS := Lib.hid (sum_take_succ st k x hx')
      obtain ⟨s, hs⟩ : ∃ s, s = (st.take k).sum := ⟨_, rfl⟩
      rw [← hs] at hbd HS ⊢
      have b1 : s ≤ 8 * 1099511627776 := by omega
      obtain ⟨b0, -⟩ := hbd
      obtain ⟨x0, x1⟩ := hxb
      clear hs hx'
      go_wp2
      exact ⟨⟨k + 1, by omega, by go_num, by rw [HS.out]⟩, by simp [intOf]; omega⟩
    · have htk : st.take k = st := List.take_of_length_le (by omega)
      rw [htk] at hbd ⊢
      obtain ⟨s, hs⟩ : ∃ s, s = st.sum := ⟨_, rfl⟩
      have hsb : 0 ≤ s ∧ s ≤ 8 * 1099511627776 := by rw [hs]; omega
      rw [← hs]
      have HS := Lib.hid hs
      clear hs htk hbd
      go_wp2_with (first
        | (go_at_call 52; refine (HCO.out _ inferInstance).mono ?_; rintro e w3 ⟨A3, c3, rfl, hM3, k3, k4, hs3⟩)
        | (go_at_call 51; refine (HSO.out _ _ _ inferInstance hM3).mono ?_; rintro e w4 ⟨A4, c4, L, rfl, hM4, k5, k6, hp, hw, hs4⟩))
      go_ret3
      exact ⟨A4, c4, L, by rw [← HS.out]; rfl, hM4, k5, k6, hp, hw, Step.of _ _⟩
end Go.Proofs.YtjehjkipcaohpaaGreat
namespace Go.Proofs.YtjehjkipcaohpaaGreat
open Go.RowKit
def m1 : List (List Int) := [[1]]
def m2 : List (List Int) := [[2, 1], [1, 2]]
theorem minors_m1 : minorsTo m1 1 = [1, 1] := by decide
theorem lam_m1 : lamTo m1 1 = [[]] := by decide
theorem minors_m2 : minorsTo m2 2 = [1, 2, 3] := by decide
theorem lam_m2 : lamTo m2 2 = [[1], []] := by decide
theorem all_m1 : AllLen m1 m1.length := by unfold AllLen; decide
theorem all_m2 : AllLen m2 m2.length := by unfold AllLen; decide
theorem red_m1 : RedM m1 := ⟨by decide, all_m1, by unfold Ent18; decide, by decide⟩
theorem red_m2 : RedM m2 := ⟨by decide, all_m2, by unfold Ent18; decide, by decide⟩
theorem num_m1 (bound : Int) (h0 : 0 ≤ bound) (h1 : bound < 1073741824) : NumOK (minorsTo m1 1) (lamTo m1 1) 1 bound := by
  rw [minors_m1, lam_m1]
  exact ⟨by decide, rfl, rfl, by decide, by decide, by decide, by decide, h0, h1⟩
theorem num_m2 (bound : Int) (h0 : 0 ≤ bound) (h1 : bound < 1073741824) : NumOK (minorsTo m2 2) (lamTo m2 2) 2 bound := by
  rw [minors_m2, lam_m2]
  exact ⟨by decide, rfl, rfl, by decide, by decide, by decide, by decide, h0, h1⟩
theorem lt2 {k : Nat} (h : k < 2) : k = 0 ∨ k = 1 := by omega
theorem elim_m1 : ElimOK m1 := by
  refine ⟨fun i j hi hj => ?_, fun k hk => absurd hk (by simp [m1]), fun k i j hi hj => absurd hi (by simp [m1]; omega)⟩
  have hi : i < 1 := hi
  have hj : j < 1 := hj
  obtain rfl : i = 0 := by omega
  obtain rfl : j = 0 := by omega
  decide
theorem elim_m2 : ElimOK m2 := by
  refine ⟨fun i j hi hj => ?_, fun k hk => ?_, fun k i j hi hj => ?_⟩
  · rcases lt2 hi with rfl | rfl <;> rcases lt2 hj with rfl | rfl <;> decide
  · have hk : k + 1 < 2 := hk
    obtain rfl : k = 0 := by omega
    decide
  · have hi : i + 1 < 2 - k := hi
    have hj : j + 1 < 2 - k := hj
    obtain rfl : k = 0 := by omega
    obtain rfl : i = 0 := by omega
    obtain rfl : j = 0 := by omega
    unfold CrossOK
    decide
theorem rows_m1 : Rows64 m1 := by
  intro k hk j hj
  have hk : k < 1 := hk
  obtain rfl : k = 0 := by omega
  have hj : j < 1 := hj
  obtain rfl : j = 0 := by omega
  decide
theorem rows_m2 : Rows64 m2 := by
  intro k hk j hj
  have hj : j < 2 - k := hj
  rcases lt2 hk with rfl | rfl
  · rcases lt2 hj with rfl | rfl <;> decide
  · obtain rfl : j = 0 := by omega
    decide
theorem form_m1 : FormOK m1 := ⟨by decide, all_m1, by unfold Fits64; decide, elim_m1, rows_m1, num_m1⟩
theorem form_m2 : FormOK m2 := ⟨by decide, all_m2, by unfold Fits64; decide, elim_m2, rows_m2, num_m2⟩
theorem s64_m1 : St64 m1 := by
  intro k hk
  have hk : k < 1 := hk
  obtain rfl : k = 0 := by omega
  unfold Fits64; decide
theorem s64_m2 : St64 m2 := by
  intro k hk
  rcases lt2 hk with rfl | rfl <;> (unfold Fits64; decide)
/-! ## The form (1) -/
theorem isq_sq (k : Nat) : isq (k * k) = k := isq_unique (Nat.le_refl _) (by rw [Nat.add_mul, Nat.mul_add]; omega)
theorem isq_m1 (k : Nat) : isq (((k : Int) * k) / ent m1 0 0).toNat = k := by
  have e : ((k : Int) * k) / ent m1 0 0 = ((k * k : Nat) : Int) := by
    show ((k : Int) * k) / 1 = _
    rw [Int.ediv_one]; simp
  rw [e, Int.toNat_natCast, isq_sq]
theorem coll_m1 (k : Nat) (exact : Bool) : collL m1 ((k : Int) * k) exact = multL 1 ((k : Int) * k) exact k := by
  have h : m1.length = 1 := rfl
  rw [collL, if_pos h, isq_m1]; rfl
theorem steps_m1 (k : Nat) (hk : k ≤ 9999) : stepsSpec m1 ((k : Int) * k) 20000 = ([2 * (k : Int) + 1], 0) := by
  have hkk : (k : Int) * k ≤ 9999 * 9999 := Int.mul_le_mul (by omega) (by omega) (by omega) (by omega)
  have hk0 : 0 ≤ (k : Int) * k := Int.mul_nonneg (by omega) (by omega)
  have h1 : isRedB m1 = true := red_m1.red
  have h2 : argsB ((k : Int) * k) 20000 = true := by simp only [argsB, decide_eq_true_eq]; omega
  have h3 : crowdB m1 ((k : Int) * k) = false := by simp [crowdB, m1]
  have h4 : stepsOf m1 ((k : Int) * k) 20000 = some (20000 - (2 * (k : Int) + 1), [2 * (k : Int) + 1]) := by
    have hl : m1.length = 1 := rfl
    have ht : tailsY (minorsTo m1 1) (lamTo m1 1) 1 ((k : Int) * k) = [(1, 2 * (k : Int) + 1)] := by
      rw [tailsY, if_pos rfl, minors_m1]
      have := isq_m1 k
      have e : ent m1 0 0 = vD [1, 1] 1 := rfl
      rw [e] at this
      rw [this]
    rw [stepsOf, hl, ht]
    simp only [stepsGo]
    rw [if_neg (by omega)]
    simp
  rw [stepsSpec, h1, h2, h3, h4]; rfl
theorem mult_all (b : Int) (k : Nat) : multL 1 b false k = (List.range k).map fun (i : Nat) => [(i : Int) + 1] := by
  simp only [multL, Bool.not_false, Bool.true_or]
  rw [List.filter_eq_self.2 (fun _ _ => rfl)]
theorem mult_exact (k : Nat) (h1 : 1 ≤ k) : multL 1 ((k : Int) * k) true k = [[(k : Int)]] := by
  obtain ⟨j, rfl⟩ : ∃ j, k = j + 1 := ⟨k - 1, by omega⟩
  have hf : (List.range j).filter (fun (i : Nat) => !true || decide (1 * ((i : Int) + 1) * ((i : Int) + 1) = ((j + 1 : Nat) : Int) * ((j + 1 : Nat) : Int))) = [] := by
    rw [List.filter_eq_nil_iff]
    intro i hi
    have hi : i < j := List.mem_range.1 hi
    simp only [Bool.not_true, Bool.false_or, decide_eq_true_eq]
    intro hh
    have : ((i : Int) + 1) * ((i : Int) + 1) < ((j + 1 : Nat) : Int) * ((j + 1 : Nat) : Int) := Int.mul_lt_mul (by omega) (by omega) (by omega) (by omega)
    rw [Int.one_mul] at hh
    omega
  rw [multL, List.range_succ, List.filter_append, hf]
  simp
theorem vec_m1 (x : Int) (h1 : 1 ≤ x) (h2 : x ≤ 1048576) : VecOK m1 [x] := by
  have hx : x * x ≤ 1048576 * 1048576 := Int.mul_le_mul h2 h2 (by omega) (by omega)
  have hx0 : 0 ≤ x * x := Int.mul_nonneg (by omega) (by omega)
  refine ⟨?_, ?_, ?_⟩
  · simp [fitsB, inRangeB, m1]; omega
  · have : nrm m1 [x] = x * x := by simp [nrm, applyL, m1, dotL]
    rw [this]; simp [dotB]; omega
  · simp [canonB, inRangeB, firstNZ]; omega
theorem canon_pos (x : Int) (h1 : 1 ≤ x) : canonL [x] = [x] := by
  have : firstNZ [x] = x := by simp [firstNZ]; intro; omega
  rw [canonL, this, if_neg (by omega)]
theorem canon_all (k : Nat) : ((List.range k).map fun (i : Nat) => [(i : Int) + 1]).map canonL = (List.range k).map fun (i : Nat) => [(i : Int) + 1] := by
  rw [List.map_map]
  refine List.map_congr_left fun i _ => ?_
  exact canon_pos _ (by omega)
theorem enum_m1 (k : Nat) (h1 : 1 ≤ k) (hk : k ≤ 9999) (exact : Bool) : EnumOK m1 ((k : Int) * k) exact := by
  refine ⟨form_m1, s64_m1, red_m1, Int.mul_nonneg (by omega) (by omega), fun h => absurd h (by simp [m1]), fun _ => by rw [isq_m1]; omega, ?_, ?_, ?_⟩
  all_goals rw [coll_m1]
  · have := multL_len 1 ((k : Int) * k) exact k
    omega
  · cases exact
    · rw [mult_all]
      intro x hx
      obtain ⟨i, hi, rfl⟩ := List.mem_map.1 hx
      have := List.mem_range.1 hi
      exact vec_m1 _ (by omega) (by omega)
    · rw [mult_exact k h1]
      intro x hx
      obtain rfl := List.mem_singleton.1 hx
      exact vec_m1 _ (by omega) (by omega)
  · cases exact
    · rw [mult_all, canon_all, List.Nodup, List.pairwise_map]
      refine List.Pairwise.imp ?_ (List.nodup_range (n := k))
      intro a b hab h
      injection h with h
      omega
    · rw [mult_exact k h1]; simp
/-! ## The form of example 1 -/
theorem coll_m2 : collL m2 2 false = [[1, 0], [-1, 1], [0, 1]] := by decide
theorem steps_m2 : stepsSpec m2 2 100 = ([3, 7], 0) := by decide
theorem enum_m2 : EnumOK m2 2 false := by
  refine ⟨form_m2, s64_m2, red_m2, by decide, by decide, by decide, by decide, ?_, by decide⟩
  rw [coll_m2]
  intro x hx
  simp only [List.mem_cons, List.not_mem_nil, or_false] at hx
  rcases hx with rfl | rfl | rfl <;> exact ⟨by decide, by decide, by decide⟩
end Go.Proofs.YtjehjkipcaohpaaGreat
namespace Go.Proofs.YtjehjkipcaohpaaGreat
open Go.RowKit
theorem sorted_eq {m L T ls : List (List Int)} (hp : L.Perm (ls.map canonL)) (hw : L.Pairwise (fun x y => cmpK (nrm m x) (nrm m y) x y < 0)) (hT : T.Pairwise (fun x y => cmpK (nrm m x) (nrm m y) x y < 0)) (hpT : T.Perm (ls.map canonL)) (anti : ∀ a ∈ T, ∀ b ∈ T, cmpK (nrm m a) (nrm m b) a b < 0 → cmpK (nrm m b) (nrm m a) b a < 0 → a = b) : L = T := by
  have hq := hp.trans hpT.symm
  exact List.Perm.eq_of_pairwise (fun a b ha hb => anti a (hq.mem_iff.1 ha) b hb) hw hT hq
theorem mat22 (w : World) (a b c d : Int) : Mat64 (((w.alloc (.cells #[.int .i64 a, .int .i64 b] 2)).alloc (.cells #[.int .i64 c, .int .i64 d] 2)).alloc (.cells #[.slice (some ⟨w.heap.size, 0, none⟩) 2 2, .slice (some ⟨w.heap.size + 1, 0, none⟩) 2 2] 37)) (some ⟨w.heap.size + 1 + 1, 0, none⟩) [[a, b], [c, d]] := by
  have h1 : Ints (w.alloc (.cells #[.int .i64 a, .int .i64 b] 2)) (some ⟨w.heap.size, 0, none⟩) 2 .i64 [a, b] := Arr.new w 2 #[.int .i64 a, .int .i64 b]
  have h2 : Ints ((w.alloc (.cells #[.int .i64 a, .int .i64 b] 2)).alloc (.cells #[.int .i64 c, .int .i64 d] 2)) (some ⟨w.heap.size + 1, 0, none⟩) 2 .i64 [c, d] := by
    have := Arr.new (w.alloc (.cells #[.int .i64 a, .int .i64 b] 2)) 2 #[.int .i64 c, .int .i64 d]
    rwa [World.size_alloc] at this
  have h3 := Arr.new ((w.alloc (.cells #[.int .i64 a, .int .i64 b] 2)).alloc (.cells #[.int .i64 c, .int .i64 d] 2)) 37 #[.slice (some ⟨w.heap.size, 0, none⟩) 2 2, .slice (some ⟨w.heap.size + 1, 0, none⟩) 2 2]
  rw [World.size_alloc, World.size_alloc] at h3
  refine ⟨_, rfl, h3, fun i r hr => ?_⟩
  match i with
  | 0 => obtain rfl : [a, b] = r := by simpa using hr
         exact ⟨_, 2, rfl, h1.ext inferInstance, by simp, by omega⟩
  | 1 => obtain rfl : [c, d] = r := by simpa using hr
         exact ⟨_, 2, rfl, h2.ext inferInstance, by simp, by omega⟩
  | i + 2 => simp at hr
theorem mat32 (w : World) (a b c d e f : Int) : Mat64 ((((w.alloc (.cells #[.int .i64 a, .int .i64 b] 2)).alloc (.cells #[.int .i64 c, .int .i64 d] 2)).alloc (.cells #[.int .i64 e, .int .i64 f] 2)).alloc (.cells #[.slice (some ⟨w.heap.size, 0, none⟩) 2 2, .slice (some ⟨w.heap.size + 1, 0, none⟩) 2 2, .slice (some ⟨w.heap.size + 1 + 1, 0, none⟩) 2 2] 37)) (some ⟨w.heap.size + 1 + 1 + 1, 0, none⟩) [[a, b], [c, d], [e, f]] := by
  have h1 : Ints (w.alloc (.cells #[.int .i64 a, .int .i64 b] 2)) (some ⟨w.heap.size, 0, none⟩) 2 .i64 [a, b] := Arr.new w 2 #[.int .i64 a, .int .i64 b]
  have h2 : Ints ((w.alloc (.cells #[.int .i64 a, .int .i64 b] 2)).alloc (.cells #[.int .i64 c, .int .i64 d] 2)) (some ⟨w.heap.size + 1, 0, none⟩) 2 .i64 [c, d] := by
    have := Arr.new (w.alloc (.cells #[.int .i64 a, .int .i64 b] 2)) 2 #[.int .i64 c, .int .i64 d]
    rwa [World.size_alloc] at this
  have h3 : Ints (((w.alloc (.cells #[.int .i64 a, .int .i64 b] 2)).alloc (.cells #[.int .i64 c, .int .i64 d] 2)).alloc (.cells #[.int .i64 e, .int .i64 f] 2)) (some ⟨w.heap.size + 1 + 1, 0, none⟩) 2 .i64 [e, f] := by
    have := Arr.new ((w.alloc (.cells #[.int .i64 a, .int .i64 b] 2)).alloc (.cells #[.int .i64 c, .int .i64 d] 2)) 2 #[.int .i64 e, .int .i64 f]
    rwa [World.size_alloc, World.size_alloc] at this
  have h4 := Arr.new (((w.alloc (.cells #[.int .i64 a, .int .i64 b] 2)).alloc (.cells #[.int .i64 c, .int .i64 d] 2)).alloc (.cells #[.int .i64 e, .int .i64 f] 2)) 37 #[.slice (some ⟨w.heap.size, 0, none⟩) 2 2, .slice (some ⟨w.heap.size + 1, 0, none⟩) 2 2, .slice (some ⟨w.heap.size + 1 + 1, 0, none⟩) 2 2]
  rw [World.size_alloc, World.size_alloc, World.size_alloc] at h4
  refine ⟨_, rfl, h4, fun i r hr => ?_⟩
  match i with
  | 0 => obtain rfl : [a, b] = r := by simpa using hr
         exact ⟨_, 2, rfl, h1.ext inferInstance, by simp, by omega⟩
  | 1 => obtain rfl : [c, d] = r := by simpa using hr
         exact ⟨_, 2, rfl, h2.ext inferInstance, by simp, by omega⟩
  | 2 => obtain rfl : [e, f] = r := by simpa using hr
         exact ⟨_, 2, rfl, h3.ext inferInstance, by simp, by omega⟩
  | i + 3 => simp at hr
def vecs_m2 : List (List Int) := [[0, 1], [1, -1], [1, 0]]
theorem sorted_m2 {L : List (List Int)} (hp : L.Perm ((collL m2 2 false).map canonL)) (hw : L.Pairwise (fun x y => cmpK (nrm m2 x) (nrm m2 y) x y < 0)) : L = vecs_m2 := by
  refine sorted_eq hp hw (by decide) ?_ (by decide)
  rw [coll_m2]
  decide
set_option maxHeartbeats 1000000 in
theorem awake11_any {w : World} : Calls Tryz.prog 26 #[] w (RetVal w (.bool true)) := by
  have hv := fun W A (hM : Mat64 W A m2) => Vectors_ok (w0 := W) (w := W) (c := 2) (st := [3, 7]) hM (by decide) (by decide) enum_m2 steps_m2 (by decide) (by decide) (by decide) (by decide) (by decide)
  have HV : Hid (∀ W A, Mat64 W A m2 → Calls Tryz.prog 23 #[.slice A 2 2, .int .i64 2, .int .i64 100] W fun e w' => ∃ B c, e = .returned (.tuple #[.slice B 3 c, .int .i64 10, .int .i64 0]) ∧ Mat64 w' B vecs_m2 ∧ Step W w') := Lib.hid (fun W A hM => (hv W A hM).mono (fun e w' ⟨B, c, L, he, h1, _, _, hp, hw, hs⟩ => by
    obtain rfl := sorted_m2 hp hw
    exact ⟨B, c, he, h1, hs⟩))
  have HS : Hid (∀ W B c C d, Mat64 W B vecs_m2 → Mat64 W C vecs_m2 → Calls Tryz.prog 25 #[.slice B 3 c, .slice C 3 d] W (RetQ W (.bool true))) := Lib.hid (fun W B c C d h1 h2 => ref09_Same_any (w0 := W) (w := W) (c := c) (d := d) h1 h2 (by decide) (by decide) (by decide) (by decide))
  clear hv
  go_enter Tryz.func26, Tryz.ntmps26
  go_wp2_with (first
    | (go_at_call 23; refine (HV.out _ _ (mat22 w 2 1 1 2)).mono ?_; rintro e w1 ⟨B1, c1, rfl, hM1, hs1⟩)
    | (go_at_call 25; refine (HS.out _ _ _ _ _ (hM1.ext inferInstance) (mat32 w1 0 1 1 (-1) 1 0)).mono ?_; rintro e w2 ⟨rfl, n2, rfl⟩))
  go_ret
  exact ⟨rfl, Step.of _ _⟩
end Go.Proofs.YtjehjkipcaohpaaGreat
namespace Go.Proofs.YtjehjkipcaohpaaGreat
open Go.ChangeShapes Go.WideShapes Go.ChangeAt Go.RowKit
/-- What a row asks of a law whose run has only made new memory, and which lists no variables. -/
theorem law_post {H : Type} {enc : TypeId × Value → H} {P : Program} {f : Func} {s : ChangeSpec} {ap fr ho ag : Bool} {W W' : World} {args : Array Value} {v : Value} {ds gs : List (DataW H)} {before : List MemPlace}
    (hW : DataW.Whole enc P f.params.toList s.vars ap W args.toList ds gs before)
    (hr : ∀ (b : Nat) (sp : Nat → Bool) (hd : Bool), DataW.TrodAll enc P W' b sp hd f.resultTypes.toList (v.resultList f.resultTypes.size) (s.fn H (ds ++ gs)).results [])
    (ha : ∀ sp : Nat → Bool, (∀ p ∈ before, sp p.block = true) → DataW.TrodAll enc P W' 0 sp true f.params.toList args.toList (s.fn H (ds ++ gs)).args before)
    (hv : ∀ sp : Nat → Bool, DataW.TrodVars enc P W' sp s.vars (s.fn H (ds ++ gs)).vars [])
    (hb : Below W.heap.size W W')
    (hok : ∀ (j : Nat) (t : TypeId) (r : Value), f.resultTypes[j]? = some t → (v.resultList f.resultTypes.size)[j]? = some r → Value.okWide P W' .any 0 t r) :
    s.post enc P f ap fr ho ag W args v W' := by
  have old : ∀ p ∈ before, p.block < W.heap.size := fun p hp => hW.lt p hp
  have kept : W.keptBut W' fun p => p ∈ before ∧ (p ∈ ([] : List MemPlace) ∨ p ∈ before ++ []) := World.keptBut_mono (fun p hp => ⟨hp, .inr (by simpa using hp)⟩) (hb.frame (· ∈ before))
  refine ⟨ds, gs, before, [], before, [], hW, hr _ _ _, ha _ (fun p hp => by simpa using old p hp), hv _, ?_, fun _ => ⟨hok, ?_⟩⟩
  · refine World.keptBut_mono (fun p hp => ?_) kept
    exact ⟨hp.1, by simpa using hp.1⟩
  · obtain ⟨_, _, _, _, _, hz, hn⟩ := hW
    have hall := trodAll_append (ha (fun _ => true) (fun _ _ => rfl)) (hr 0 (fun _ => true) true)
    rw [List.nil_append] at hall
    refine ⟨_, _, before ++ [], ⟨before, [], hall, hv _, rfl, fun b off hp => ?_, fun h => by simpa using hn h⟩, fun p hp _ => by simpa using hp⟩
    have hin : MemPlace.cell b off ∈ before := by simpa using hp
    rw [hb.frozen (old _ hin)]
    exact hz b off hin
end Go.Proofs.YtjehjkipcaohpaaGreat
namespace Go.Proofs.YtjehjkipcaohpaaGreat
open La
/-- Stage k of the lists, as the elimination of the entries. -/
theorem st_E (m : List (List Int)) (k : Nat) : k ≤ m.length → (stAt m k).1 = lastE (ent m) k ∧ ∀ i j, i < m.length - k → j < m.length - k → ent (stAt m k).2 i j = E (ent m) k (k + i) (k + j) := by
  induction k with
  | zero => intro _; exact ⟨rfl, fun i j _ _ => by simp [stAt, E]⟩
  | succ k ih =>
    intro hk
    obtain ⟨h1, h2⟩ := ih (by omega)
    refine ⟨h2 0 0 (by omega) (by omega), fun i j hi hj => ?_⟩
    show ent (nextSt (stAt m k).1 (stAt m k).2) i j = _
    unfold nextSt
    rw [stAt_length, ent_tab _ _ _ _ _ (by omega) (by omega), E_succ, h1, h2 0 0 (by omega) (by omega), h2 (i + 1) (j + 1) (by omega) (by omega), h2 (i + 1) 0 (by omega) (by omega), h2 0 (j + 1) (by omega) (by omega)]
    simp only [Nat.add_zero]
    rw [show k + (i + 1) = k + 1 + i by omega, show k + (j + 1) = k + 1 + j by omega]
theorem st_ent {m : List (List Int)} {k i j : Nat} (hi : k + i < m.length) (hj : k + j < m.length) : ent (stAt m k).2 i j = E (ent m) k (k + i) (k + j) := (st_E m k (by omega)).2 i j (by omega) (by omega)
theorem st_last {m : List (List Int)} {k : Nat} (hk : k ≤ m.length) : (stAt m k).1 = lastE (ent m) k := (st_E m k hk).1
/-- A pivot is positive exactly if the entry is, behind positive ones. -/
theorem pos_succ {m : Nat → Nat → Int} {k : Nat} (h : Pos (ofZ m) k) (he : 0 < E m k k k) : Pos (ofZ m) (k + 1) := fun l hl => by
  rcases (by omega : l < k ∨ l = k) with h1 | h1
  · exact h l h1
  · subst h1
    have h2 := (E_eq m l h.piv).1 l l
    have h3 := dd_pos l h
    have h4 := (Rat.intCast_pos (a := E m l l l)).2 he
    rw [h2] at h4
    exact pos_of_mul h3 (by grind)
theorem E_pos {m : Nat → Nat → Int} {k n : Nat} (h : Pos (ofZ m) n) (hk : k < n) : 0 < E m k k k := by
  have h2 := (E_eq m k (h.le (by omega)).piv).1 k k
  have h3 := dd_pos k (h.le (by omega))
  have h4 := Rat.mul_pos h3 (h k hk)
  rw [← h2] at h4
  exact Rat.intCast_pos.1 h4
theorem lastE_pos {m : Nat → Nat → Int} {k n : Nat} (h : Pos (ofZ m) n) (hk : k ≤ n) : 0 < lastE m k := by
  cases k with
  | zero => show (0 : Int) < 1; omega
  | succ k => exact E_pos h (by omega)
theorem tab_congr {F G : Nat → Nat → Int} {r c : Nat} (h : ∀ i j, i < r → j < c → F i j = G i j) : tab F r c = tab G r c := by
  unfold tab
  refine List.map_congr_left fun i hi => List.map_congr_left fun j hj => h i j (by simpa using hi) (by simpa using hj)
/-- Behind a positive pivot the next stage has exact quotients. -/
theorem nextT_eq {m : List (List Int)} {k : Nat} (h : Pos (ofZ (ent m)) (k + 1)) (hk : k + 1 ≤ m.length) : nextT (stAt m k).1 (stAt m k).2 = nextSt (stAt m k).1 (stAt m k).2 := by
  unfold nextT nextSt
  refine tab_congr fun i j hi hj => ?_
  rw [stAt_length] at hi hj
  rw [st_last (by omega), st_ent (i := 0) (j := 0) (by omega) (by omega), st_ent (i := i + 1) (j := j + 1) (by omega) (by omega), st_ent (i := i + 1) (j := 0) (by omega) (by omega), st_ent (i := 0) (j := j + 1) (by omega) (by omega)]
  simp only [Nat.add_zero]
  rw [E_exact (ent m) k h.piv]
  have hl := lastE_pos h (by omega : k ≤ k + 1)
  rw [Int.mul_tdiv_cancel_left _ (by omega), Int.mul_ediv_cancel_left _ (by omega)]
/-- What holds of a reduced form. -/
structure RedOK (m : List (List Int)) : Prop where
  small : isSmallB m = true
  pos : Pos (ofZ (ent m)) m.length
  sinv : ∀ k, k < m.length → SInv (stAt m k).1 (stAt m k).2
  short : ∀ k, k + 1 < m.length → shortB (stAt m k).2 = true
  lov : ∀ k, k + 1 < m.length → 3 * (E (ent m) k k k * E (ent m) k k k) ≤ 4 * (lastE (ent m) k * E (ent m) (k + 1) (k + 1) (k + 1) + E (ent m) k (k + 1) k * E (ent m) k (k + 1) k)
  det0 : 0 < E (ent m) (m.length - 1) (m.length - 1) (m.length - 1)
  det1 : E (ent m) (m.length - 1) (m.length - 1) (m.length - 1) ≤ 10000
theorem red_go {m : List (List Int)} (hs : isSmallB m = true) (hr : redGo (m.length - 1) 1 m = true) (k : Nat) : k < m.length → Pos (ofZ (ent m)) k ∧ SInv (stAt m k).1 (stAt m k).2 ∧ redGo (m.length - 1 - k) (stAt m k).1 (stAt m k).2 = true := by
  induction k with
  | zero => intro _; exact ⟨fun l hl => absurd hl (by omega), SInv.start hs, hr⟩
  | succ k ih =>
    intro hk
    obtain ⟨h1, h2, h3⟩ := ih (by omega)
    rw [show m.length - 1 - k = (m.length - 1 - (k + 1)) + 1 by omega] at h3
    simp only [redGo, Bool.and_eq_true] at h3
    obtain ⟨a1, a2, a3⟩ := h3
    have hp : Pos (ofZ (ent m)) (k + 1) := by
      refine pos_succ h1 ?_
      have := (of_decide_eq_true a1).1
      rwa [st_ent (i := 0) (j := 0) (by omega) (by omega)] at this
    rw [nextT_eq hp (by omega)] at a3
    have hn := h2.next (by rw [stAt_length]; omega) a1
    rw [nextT_eq hp (by omega)] at hn
    exact ⟨hp, hn, a3⟩
theorem isSmallB_len {m : List (List Int)} (hs : isSmallB m = true) : 1 ≤ m.length ∧ m.length ≤ 8 := by
  have := of_decide_eq_true hs
  exact ⟨this.1, this.2.1⟩
theorem red_ok {m : List (List Int)} (h : isRedB m = true) : RedOK m := by
  simp only [isRedB, Bool.and_eq_true] at h
  obtain ⟨hs, hr⟩ := h
  have hl := isSmallB_len hs
  have hgo := red_go hs hr
  have hlast := (hgo (m.length - 1) (by omega)).2.2
  rw [show m.length - 1 - (m.length - 1) = 0 by omega] at hlast
  have hd := of_decide_eq_true hlast
  rw [st_ent (i := 0) (j := 0) (by omega) (by omega)] at hd
  simp only [Nat.add_zero] at hd
  have hmid : ∀ k, k + 1 < m.length → shortB (stAt m k).2 = true ∧ ¬ (4 * ((stAt m k).1 * ent (nextT (stAt m k).1 (stAt m k).2) 0 0 + ent (stAt m k).2 1 0 * ent (stAt m k).2 1 0) < 3 * ent (stAt m k).2 0 0 * ent (stAt m k).2 0 0) := fun k hk => by
    have h3 := (hgo k (by omega)).2.2
    rw [show m.length - 1 - k = (m.length - 1 - (k + 1)) + 1 by omega] at h3
    simp only [redGo, Bool.and_eq_true] at h3
    exact ⟨h3.1, by simpa using h3.2.1⟩
  refine ⟨hs, ?_, fun k hk => (hgo k hk).2.1, fun k hk => (hmid k hk).1, fun k hk => ?_, hd.1, hd.2⟩
  · have := pos_succ (hgo (m.length - 1) (by omega)).1 hd.1
    rwa [show m.length - 1 + 1 = m.length by omega] at this
  · have h4 := (hmid k hk).2
    have hp := (hgo (k + 1) (by omega)).1
    rw [nextT_eq hp (by omega)] at h4
    have e : ent (nextSt (stAt m k).1 (stAt m k).2) 0 0 = E (ent m) (k + 1) (k + 1) (k + 1) := st_ent (k := k + 1) (i := 0) (j := 0) (by omega) (by omega)
    rw [e, st_last (by omega), st_ent (i := 0) (j := 0) (by omega) (by omega), st_ent (i := 1) (j := 0) (by omega) (by omega)] at h4
    simp only [Nat.add_zero] at h4
    rw [Int.mul_assoc 3] at h4
    omega
/-- The last stage but the pivots: also there the pivot is small. -/
theorem RedOK.piv {m : List (List Int)} (h : RedOK m) {k : Nat} (hk : k < m.length) : 0 < E (ent m) k k k ∧ E (ent m) k k k < 65536 := by
  refine ⟨E_pos h.pos hk, ?_⟩
  rcases (by omega : k + 1 < m.length ∨ k = m.length - 1) with h1 | h1
  · have := (of_decide_eq_true (h.short k h1)).2.1
    rwa [st_ent (i := 0) (j := 0) (by omega) (by omega)] at this
  · subst h1
    have := h.det1
    omega
theorem isSmallB_all {m : List (List Int)} (hs : isSmallB m = true) : AllLen m m.length := fun r hr => by
  obtain ⟨i, hi, rfl⟩ := List.getElem_of_mem hr
  have := (of_decide_eq_true hs).2.2.1 i hi
  simpa [List.getD, hi] using this
theorem mem_ent {m : List (List Int)} {n : Nat} (hn : AllLen m n) {r : List Int} (hr : r ∈ m) {x : Int} (hx : x ∈ r) : ∃ i j, i < m.length ∧ j < n ∧ ent m i j = x := by
  obtain ⟨i, hi, rfl⟩ := List.getElem_of_mem hr
  obtain ⟨j, hj, rfl⟩ := List.getElem_of_mem hx
  refine ⟨i, j, hi, ?_, ?_⟩
  · rw [← hn _ hr]; exact hj
  · simp [ent, hi, hj]
theorem RedOK.s64 {m : List (List Int)} (h : RedOK m) : St64 m := fun k hk r hr x hx => by
  obtain ⟨i, j, hi, hj, rfl⟩ := mem_ent (stAt_allLen m (isSmallB_all h.small) k) hr hx
  have := (h.sinv k hk).b40 i hi j (by rw [stAt_length]; exact hj)
  omega
theorem minorsTo_get {m : List (List Int)} {k : Nat} (hk : k ≤ m.length) : vD (minorsTo m m.length) k = lastE (ent m) k := by
  unfold vD minorsTo
  cases k with
  | zero => rfl
  | succ k =>
    have : ent (stAt m k).2 0 0 = E (ent m) k k k := st_ent (i := 0) (j := 0) (by omega) (by omega)
    simp [(by omega : k < m.length), this, lastE]
theorem lamTo_get {m : List (List Int)} {k : Nat} (hk : k < m.length) : (lamTo m m.length).getD k [] = lamRow m k := by
  simp [lamTo, hk]
theorem RedOK.num {m : List (List Int)} (h : RedOK m) {bound : Int} (h0 : 0 ≤ bound) (h1 : bound < 1073741824) : NumOK (minorsTo m m.length) (lamTo m m.length) m.length bound := by
  have hl := isSmallB_len h.small
  refine ⟨hl.2, by simp [minorsTo], by simp [lamTo], fun k hk => ?_, fun k hk => ?_, fun k hk => ?_, fun k hk x hx => ?_, h0, h1⟩
  · rw [lamTo_get hk]; simp [lamRow]; omega
  · rw [minorsTo_get hk]
    have := lastE_pos h.pos hk
    omega
  · rw [minorsTo_get hk]
    cases k with
    | zero => show (1 : Int) < 65536; omega
    | succ k => exact (h.piv (by omega)).2
  · rw [lamTo_get hk] at hx
    rw [minorsTo_get (by omega)]
    obtain ⟨j, hj, rfl⟩ := List.mem_map.1 hx
    have hj' : j < m.length - k - 1 := by simpa using hj
    have hs := (of_decide_eq_true (h.short k (by omega))).2.2 (j + 1) (by rw [stAt_length]; omega) (by omega)
    have hsym := (h.sinv k hk).sym 0 (by rw [stAt_length]; omega) (j + 1) (by rw [stAt_length]; omega)
    have e : ent (stAt m k).2 0 0 = E (ent m) k k k := st_ent (i := 0) (j := 0) (by omega) (by omega)
    show -(E (ent m) k k k) ≤ _ ∧ _ ≤ E (ent m) k k k
    rw [← e, hsym]
    omega
theorem RedOK.form {m : List (List Int)} (h : RedOK m) : FormOK m := by
  have hl := isSmallB_len h.small
  have hb : ∀ k, k < m.length → ∀ i j, i < m.length - k → j < m.length - k → -1099511627776 ≤ ent (stAt m k).2 i j ∧ ent (stAt m k).2 i j ≤ 1099511627776 := fun k hk i j hi hj =>
    (h.sinv k hk).b40 i (by rw [stAt_length]; exact hi) j (by rw [stAt_length]; exact hj)
  refine ⟨hl.1, isSmallB_all h.small, fun r hr x hx => ?_, ⟨fun i j hi hj => ?_, fun k hk => ?_, fun k i j hi hj => ?_⟩, fun k hk j hj => ?_, fun bound h0 h1 => h.num h0 h1⟩
  · have := h.s64 0 (by omega) r hr x hx
    exact this
  · have := hb 0 (by omega) i j hi hj
    simp only [stAt] at this
    omega
  · rw [st_ent (i := 0) (j := 0) (by omega) (by omega)]
    have := E_pos h.pos (k := k) (by omega)
    simp only [Nat.add_zero]
    omega
  · have hk : k + 1 < m.length := by omega
    have b1 := hb k (by omega) 0 0 (by omega) (by omega)
    have b2 := hb k (by omega) (i + 1) 0 (by omega) (by omega)
    have b3 := hb k (by omega) 0 (j + 1) (by omega) (by omega)
    have b4 := hb k (by omega) (i + 1) (j + 1) (by omega) (by omega)
    obtain ⟨_, _, c3, c4, c5, c6⟩ := (h.sinv k (by omega)).nums (h.short k hk) (i := i) (j := j) (by rw [stAt_length]; omega) (by rw [stAt_length]; omega)
    have l1 := (h.sinv k (by omega)).lp
    have l2 := (h.sinv k (by omega)).ll
    refine ⟨by omega, by omega, by omega, by omega, by omega, by omega, by omega, by omega, by omega⟩
  · have := hb k hk 0 j (by omega) hj
    omega
end Go.Proofs.YtjehjkipcaohpaaGreat

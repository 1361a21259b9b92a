/-
  The contract of collect of the package enumerate.
-/
import Derived.Test.YtaaldapmkhamlaaGreatSrch2
import Derived.Test.YtaaldapmkhamlaaGreatForm
namespace Go.Proofs.YtaaldapmkhamlaaGreat
open Go.RowKit
/-- What collect returns. -/
def collL (m : List (List Int)) (bound : Int) (exact : Bool) : List (List Int) :=
  if m.length = 1 then multL (ent m 0 0) bound exact (isq (bound / ent m 0 0).toNat)
  else searchL (minorsTo m m.length) (lamTo m m.length) exact (m.length - 1) (vD (minorsTo m m.length) m.length * bound) true []
theorem isq_bounds {h bound : Int} (h1 : 1 ≤ h) (hb : 0 ≤ bound) : (∀ x : Int, 1 ≤ x → x ≤ (isq (bound / h).toNat : Nat) → h * x * x ≤ bound) ∧ bound < h * ((isq (bound / h).toNat : Nat) + 1 : Int) * ((isq (bound / h).toNat : Nat) + 1) := by
  obtain ⟨s1, s2⟩ := isq_spec (bound / h).toNat
  obtain ⟨r, hr⟩ : ∃ r, r = isq (bound / h).toNat := ⟨_, rfl⟩
  rw [← hr] at s1 s2 ⊢
  have q0 := Int.ediv_nonneg hb (show 0 ≤ h by omega)
  have e1 := Int.mul_ediv_add_emod bound h
  have e2 := Int.emod_nonneg bound (show h ≠ 0 by omega)
  have e3 := Int.emod_lt_of_pos bound (show 0 < h by omega)
  have s1' : (r : Int) * r ≤ bound / h := by
    have : ((r * r : Nat) : Int) ≤ bound / h := by omega
    simpa using this
  have s2' : bound / h + 1 ≤ ((r : Int) + 1) * (r + 1) := by
    have : bound / h + 1 ≤ (((r + 1) * (r + 1) : Nat) : Int) := by omega
    simpa using this
  refine ⟨fun x h1x hxr => ?_, ?_⟩
  · have a1 : x * x ≤ (r : Int) * r := Int.mul_le_mul hxr hxr (by omega) (by omega)
    have a2 : h * (x * x) ≤ h * (bound / h) := Int.mul_le_mul_of_nonneg_left (by omega) (by omega)
    rw [Int.mul_assoc]; omega
  · have a2 : h * (bound / h + 1) ≤ h * (((r : Int) + 1) * (r + 1)) := Int.mul_le_mul_of_nonneg_left s2' (by omega)
    rw [Int.mul_add, Int.mul_one] at a2
    rw [Int.mul_assoc]; omega
theorem box1c (w w' : World) (x : Value) (T : TypeId) [h : Ext (w.alloc (.cells #[x] T)) w'] : w'.cell? ⟨w.heap.size, 0, none⟩ = some x := by
  have h0 : w'.heap[w.heap.size]? = some (.cells #[x] T (0, 0)) := heap_of_ext h (heap_alloc_new w _)
  simp [World.cell?, h0]
set_option maxHeartbeats 1000000 in
theorem collect_one {w0 w : World} {A : Option Addr} {c : Nat} {m : List (List Int)} {bound : Int} {exact : Bool} (h : Mat64 w0 A m) (hm : m.length = 1) (hl : AllLen m 1) (h1 : 1 ≤ ent m 0 0) (h2 : ent m 0 0 < 65536) (hb : 0 ≤ bound) (hr : isq (bound / ent m 0 0).toNat ≤ 1048576) [hx : Ext w0 w] :
    Calls Tryz.prog 29 #[.slice A m.length c, .int .i64 bound, .bool exact] w (RetMatL w (collL m bound exact)) := by
  obtain ⟨hin, hout⟩ := isq_bounds h1 hb
  obtain ⟨r, hre⟩ : ∃ r, r = isq (bound / ent m 0 0).toNat := ⟨_, rfl⟩
  have HC : Hid (collL m bound exact = multL (ent m 0 0) bound exact r) := Lib.hid (by rw [collL, if_pos hm, hre])
  rw [HC.out]
  rw [← hre] at hin hout hr
  obtain ⟨r0, hr0⟩ : ∃ r0, m[0]? = some r0 := ⟨_, List.getElem?_eq_getElem (by omega)⟩
  obtain ⟨b, o, B, c1, rfl, e1, f1, f2, f3, f4⟩ := h.at_ hr0
  have hrl : r0.length = 1 := hl r0 (List.mem_of_getElem? hr0)
  obtain ⟨b2, o2, a, rfl, ha, g1, g2⟩ := f1.at0 (by omega)
  have hae : ent m 0 0 = a := by unfold ent; simp [hr0, ha]
  rw [hae] at h1 h2 hin hout ⊢
  rw [hrl] at e1 f2
  rw [hm]
  have k1 : a * ((r : Int) + 1) ≤ 65535 * 1048577 := Int.mul_le_mul (by omega) (by omega) (by omega) (by omega)
  have k0 : 0 ≤ a * ((r : Int) + 1) := Int.mul_nonneg (by omega) (by omega)
  have k2 : a * ((r : Int) + 1) * ((r : Int) + 1) ≤ 65535 * 1048577 * 1048577 := Int.mul_le_mul k1 (by omega) (by omega) (by omega)
  have hc := fun W => multiples_any (w := W) (exact := exact) r h1 (by omega) hin hout (by omega) (by omega)
  have HM := Lib.hid hc
  clear hc hin hout k1 k0 k2 hre hrl hae ha hr0 hm
  have ob : Old b w0 := ⟨f4⟩
  have ob2 : Old b2 w0 := ⟨g2⟩
  simp only [Nat.add_zero] at e1
  have E1 := fun W (hh : Ext w0 W) => (cellE w0 (w' := W) (b := b) (o := o)).trans e1
  have E2 := fun W (hh : Ext w0 W) => (cellE w0 (w' := W) (b := b2) (o := o2)).trans g1
  have HE1 := Lib.hid E1
  have HE2 := Lib.hid E2
  clear E1 E2 e1 g1
  go_enter Tryz.func29, Tryz.ntmps29
  go_wp2
  go_region_held3 (fun w' => w'.cell? ⟨b, o, none⟩ = some (.slice (some ⟨b2, o2, none⟩) 1 c1) ∧ w'.cell? ⟨b2, o2, none⟩ = some (.int .i64 a) ∧ w'.cell? ⟨w.heap.size, 0, none⟩ = some (.bool exact)) (exact ⟨HE1.out _ inferInstance, HE2.out _ inferInstance, box1c w _ _ 4⟩)
    ((go_at_call 54; refine (HM.out _).mono ?_; rintro e w2 ⟨A2, c2, rfl, hM2, l1, l2, hs2⟩))
  go_wp2
  go_ret
  exact ⟨A2, c2, rfl, hM2, l1, l2, Step.of _ _⟩
theorem XRow.drew {w : World} {sz n k : Nat} {tail : List Int} (h : XRow w sz n k tail) : XRow w.drew sz n k tail := h
theorem SMem.drew {w1 W : World} {n : Nat} {mA lA : Option Addr} {mc lc eb : Nat} {exact : Bool} {lB : Option Addr} {c : Nat} {l : List (List Int)} {vs : List Value} (h : SMem w1 W n mA lA mc lc eb exact lB c l vs) : SMem w1 W.drew n mA lA mc lc eb exact lB c l vs where
  ext := have := h.ext; inferInstance
  fb := h.fb
  xb := h.xb
  lb := h.lb
  sb := h.sb
  ebl := h.ebl
  ec := h.ec
  ls := have := h.ext; h.ls.ext (Ext.drew W W)
  sz := h.sz
/-- The world in which the search begins. -/
theorem SMem.start {w1 : World} {n mc lc eb : Nat} {mA lA : Option Addr} {exact : Bool} (hn : 1 ≤ n) (heb : eb < w1.heap.size) (hec : w1.cell? ⟨eb, 0, none⟩ = some (.bool exact)) :
    XRow (((((w1.alloc (.cells #[.slice mA (n + 1) mc, .slice lA n lc] 113)).alloc (.cells (mkCells #[.int .i64 0] n) 2)).alloc (.cells #[.slice (some ⟨w1.heap.size + 1, 0, none⟩) n n] 22)).alloc (.cells #[.slice none 0 0] 23)).alloc (.cells #[.func (.func 56) #[] #[.pointer (some ⟨w1.heap.size, 0, none⟩), .pointer (some ⟨w1.heap.size + 1 + 1, 0, none⟩), .pointer (some ⟨w1.heap.size + 1 + 1 + 1 + 1, 0, none⟩), .pointer (some ⟨eb, 0, none⟩), .pointer (some ⟨w1.heap.size + 1 + 1 + 1, 0, none⟩)]] 115)) (w1.heap.size + 1) n (n - 1) [] ∧
    SMem w1 (((((w1.alloc (.cells #[.slice mA (n + 1) mc, .slice lA n lc] 113)).alloc (.cells (mkCells #[.int .i64 0] n) 2)).alloc (.cells #[.slice (some ⟨w1.heap.size + 1, 0, none⟩) n n] 22)).alloc (.cells #[.slice none 0 0] 23)).alloc (.cells #[.func (.func 56) #[] #[.pointer (some ⟨w1.heap.size, 0, none⟩), .pointer (some ⟨w1.heap.size + 1 + 1, 0, none⟩), .pointer (some ⟨w1.heap.size + 1 + 1 + 1 + 1, 0, none⟩), .pointer (some ⟨eb, 0, none⟩), .pointer (some ⟨w1.heap.size + 1 + 1 + 1, 0, none⟩)]] 115)) n mA lA mc lc eb exact none 0 [] [] := by
  generalize e1 : w1.alloc (.cells #[.slice mA (n + 1) mc, .slice lA n lc] 113) = W1
  generalize e2 : W1.alloc (.cells (mkCells #[.int .i64 0] n) 2) = W2
  generalize e3 : W2.alloc (.cells #[.slice (some ⟨w1.heap.size + 1, 0, none⟩) n n] 22) = W3
  generalize e4 : W3.alloc (.cells #[.slice none 0 0] 23) = W4
  generalize e5 : W4.alloc (.cells #[.func (.func 56) #[] #[.pointer (some ⟨w1.heap.size, 0, none⟩), .pointer (some ⟨w1.heap.size + 1 + 1, 0, none⟩), .pointer (some ⟨w1.heap.size + 1 + 1 + 1 + 1, 0, none⟩), .pointer (some ⟨eb, 0, none⟩), .pointer (some ⟨w1.heap.size + 1 + 1 + 1, 0, none⟩)]] 115) = W5
  have s1 : W1.heap.size = w1.heap.size + 1 := by rw [← e1, World.size_alloc]
  have s2 : W2.heap.size = w1.heap.size + 2 := by rw [← e2, World.size_alloc, s1]
  have s3 : W3.heap.size = w1.heap.size + 3 := by rw [← e3, World.size_alloc, s2]
  have s4 : W4.heap.size = w1.heap.size + 4 := by rw [← e4, World.size_alloc, s3]
  have s5 : W5.heap.size = w1.heap.size + 5 := by rw [← e5, World.size_alloc, s4]
  have x1 : Ext w1 W1 := by rw [← e1]; infer_instance
  have x2 : Ext W1 W2 := by rw [← e2]; infer_instance
  have x3 : Ext W2 W3 := by rw [← e3]; infer_instance
  have x4 : Ext W3 W4 := by rw [← e4]; infer_instance
  have x5 : Ext W4 W5 := by rw [← e5]; infer_instance
  have h1 := heap_alloc_new w1 (.cells #[.slice mA (n + 1) mc, .slice lA n lc] 113)
  have h2 := heap_alloc_new W1 (.cells (mkCells #[.int .i64 0] n) 2)
  have h3 := heap_alloc_new W2 (.cells #[.slice (some ⟨w1.heap.size + 1, 0, none⟩) n n] 22)
  have h4 := heap_alloc_new W3 (.cells #[.slice none 0 0] 23)
  have h5 := heap_alloc_new W4 (.cells #[.func (.func 56) #[] #[.pointer (some ⟨w1.heap.size, 0, none⟩), .pointer (some ⟨w1.heap.size + 1 + 1, 0, none⟩), .pointer (some ⟨w1.heap.size + 1 + 1 + 1 + 1, 0, none⟩), .pointer (some ⟨eb, 0, none⟩), .pointer (some ⟨w1.heap.size + 1 + 1 + 1, 0, none⟩)]] 115)
  rw [e1] at h1
  rw [e2, s1] at h2
  rw [e3, s2] at h3
  rw [e4, s3] at h4
  rw [e5, s4] at h5
  have x35 := x4.trans x5
  have x25 := x3.trans x35
  have x15 := x2.trans x25
  refine ⟨⟨List.replicate n 0, ?_, by simp, by simp; omega⟩, x1.trans x15, heap_of_ext x15 h1, heap_of_ext x35 h3, heap_of_ext x5 h4, h5, heb, hec, LOwn.nil _ _, by omega⟩
  have : (mkCells #[.int .i64 0] n) = ((List.replicate n (0 : Int)).map (Value.int .i64)).toArray := by
    apply Array.ext'
    rw [mkCells_one]; simp
  rw [this] at h2
  exact heap_of_ext x25 h2
set_option maxHeartbeats 1000000 in
theorem collect_many {w0 w : World} {A : Option Addr} {c : Nat} {m : List (List Int)} {bound : Int} {exact : Bool} (h : Mat64 w0 A m) (h2 : 2 ≤ m.length) (hf : FormOK m) (h64 : St64 m) (hb0 : 0 ≤ bound) (hb1 : bound < 1073741824) (hlen : (searchL (minorsTo m m.length) (lamTo m m.length) exact (m.length - 1) (vD (minorsTo m m.length) m.length * bound) true []).length ≤ 1073741824) [hx : Ext w0 w] :
    Calls Tryz.prog 29 #[.slice A m.length c, .int .i64 bound, .bool exact] w (RetMatL w (searchL (minorsTo m m.length) (lamTo m m.length) exact (m.length - 1) (vD (minorsTo m m.length) m.length * bound) true [])) := by
  have hN := hf.num bound hb0 hb1
  have h8 := hN.n8
  have hnf := fun W (hh : Ext w0 W) => newForm_any (w := W) (c := c) h hf.len1 h8 hf.all hf.fits hf.elim h64
  have hDl : (minorsTo m m.length).length = m.length + 1 := minorsTo_length m _
  have hLl : (lamTo m m.length).length = m.length := by simp [lamTo]
  obtain ⟨D, hD⟩ : ∃ D, D = minorsTo m m.length := ⟨_, rfl⟩
  obtain ⟨L, hL⟩ : ∃ L, L = lamTo m m.length := ⟨_, rfl⟩
  rw [← hD, ← hL] at hnf hN hlen ⊢
  rw [← hD] at hDl
  rw [← hL] at hLl
  unfold RetForm at hnf
  rw [hDl, hLl] at hnf
  obtain ⟨n, hn⟩ : ∃ n, n = m.length := ⟨_, rfl⟩
  rw [← hn] at hnf hN hDl hLl h2 h8 hlen ⊢
  obtain ⟨dn, hdn⟩ : ∃ dn, dn = vD D n := ⟨_, rfl⟩
  have e1 := hN.d1 n (by omega)
  have e2 := hN.d2 n (by omega)
  rw [← hdn] at e1 e2 hlen ⊢
  have hm1 : 0 ≤ dn * bound := Int.mul_nonneg (by omega) (by omega)
  have hm2 : dn * bound ≤ 65535 * 1073741823 := Int.mul_le_mul (by omega) (by omega) (by omega) (by omega)
  have hlev : LevOK D n bound (n - 1) (dn * bound) [] := ⟨by omega, hm1, by rw [show n - 1 + 1 = n by omega, hdn]; exact Int.le_refl _, by simp, by simp [absSum]⟩
  obtain ⟨rest, hrest⟩ : ∃ rest, dn * bound = rest := ⟨_, rfl⟩
  rw [hrest] at hm1 hm2 hlev hlen ⊢
  have hdi : D[n]? = some dn := by rw [hdn]; unfold vD; simp [show n < D.length by omega]
  have HNF := Lib.hid hnf
  have HDL := Lib.hid hDl
  have HLEV := Lib.hid hlev
  have HLEN := Lib.hid hlen
  have HDI := Lib.hid hdi
  have hne : ((n : Int) == 1) = false := by simp; omega
  have hmk := run_make_any (P := Tryz.prog) Tryz.underlying22 infoI64 (by omega) (n : Int) (by omega) (by omega)
  clear hnf hD hL hn hDl hLl hlev hdi hdn hlen hf h64
  go_enter Tryz.func29, Tryz.ntmps29
  go_wp2_with (go_at_call 55; refine (HNF.out _ inferInstance).mono ?_; clear HNF; rintro e w1 ⟨mA, mc, lA, lc, rfl, hD, hL, d1, d2, d3, d4, hs1⟩)
  have heb : w.heap.size < w1.heap.size := by have := hs1.size; simp at this; omega
  have hec : w1.cell? ⟨w.heap.size, 0, none⟩ = some (.bool exact) := box1c w _ _ 4
  obtain ⟨hX, hM⟩ := SMem.start (mA := mA) (lA := lA) (mc := mc) (lc := lc) (n := n) (by omega) heb hec
  generalize (((((w1.alloc (.cells #[.slice mA (n + 1) mc, .slice lA n lc] 113)).alloc (.cells (mkCells #[.int .i64 0] n) 2)).alloc (.cells #[.slice (some ⟨w1.heap.size + 1, 0, none⟩) n n] 22)).alloc (.cells #[.slice none 0 0] 23)).alloc (.cells #[.func (.func 56) #[] #[.pointer (some ⟨w1.heap.size, 0, none⟩), .pointer (some ⟨w1.heap.size + 1 + 1, 0, none⟩), .pointer (some ⟨w1.heap.size + 1 + 1 + 1 + 1, 0, none⟩), .pointer (some ⟨w.heap.size, 0, none⟩), .pointer (some ⟨w1.heap.size + 1 + 1 + 1, 0, none⟩)]] 115)) = W at hX hM ⊢
  obtain ⟨f1, f2, f3, f4, f5⟩ := box_cells2 hM.fb
  have sb1 : W.cell? ⟨w1.heap.size + 1 + 1 + 1 + 1, 0, none⟩ = some (.func (.func 56) #[] #[.pointer (some ⟨w1.heap.size, 0, none⟩), .pointer (some ⟨w1.heap.size + 1 + 1, 0, none⟩), .pointer (some ⟨w1.heap.size + 1 + 1 + 1 + 1, 0, none⟩), .pointer (some ⟨w.heap.size, 0, none⟩), .pointer (some ⟨w1.heap.size + 1 + 1 + 1, 0, none⟩)]) := by
    have : W.cell? ⟨w1.heap.size + 4, 0, none⟩ = some (.func (.func 56) #[] (sCaps w1.heap.size w.heap.size)) := by simp [World.cell?, hM.sb]
    exact this
  obtain ⟨bm, om, -, rfl, -⟩ := hD.at_ (i := n) (by have := HDL.out; omega)
  obtain ⟨m3, m4⟩ := ints_cell (hD.ext hM.ext) HDI.out
  have hcall := fun (W' : World) hX' hM' => search_any (exact := exact) (eb := w.heap.size) hD hL d1 d2 d3 d4 hN (n - 1) rest true [] W' none 0 [] [] HLEV.out (fun _ => rfl) hX' hM' (by rw [List.nil_append]; exact HLEN.out)
  rw [show ((n - 1 : Nat) : Int) = (n : Int) - 1 by omega, List.nil_append] at hcall
  unfold sCaps at hcall
  simp only [List.append_toArray, List.cons_append, List.nil_append] at hcall
  have HC := Lib.hid hcall
  have hfn := isFn_search
  unfold IsFn at hfn
  have HX := Lib.hid hX
  have HM := Lib.hid hM
  have w1e : IntKind.i64.wrap ((n : Int) - 1) = (n : Int) - 1 := IntWalk.i64_in _ (by omega)
  have w2e : IntKind.i64.wrap rest = rest := IntWalk.i64_in _ (by omega)
  clear hcall hX hM
  go_region_with (refine (HC.out _ HX.out.drew HM.out.drew).mono ?_; rintro e W3 ⟨rfl, hX4, lB4, c4, vs4, hM4⟩)
  all_goals (
    have lb4 : W3.cell? ⟨w1.heap.size + 1 + 1 + 1, 0, none⟩ = some (.slice lB4 (searchL D L exact (n - 1) rest true []).length c4) := by
      have : W3.cell? ⟨w1.heap.size + 3, 0, none⟩ = some (.slice lB4 (searchL D L exact (n - 1) rest true []).length c4) := by simp [World.cell?, hM4.lb]
      exact this
    have hlt4 : w1.heap.size + 1 + 1 + 1 < W3.heap.size := by have := hM4.sz; omega
    have hfin : RetMatL w (searchL D L exact (n - 1) rest true []) (.returned (.slice lB4 (searchL D L exact (n - 1) rest true []).length c4)) W3 := by
      have hc := hM4.ls.own.cap
      have hxw : Ext w w1 := inferInstance
      exact ⟨lB4, c4, rfl, hM4.ls.mat, hc.1, hc.2, (hxw.trans hM4.ext).toStep⟩
    have HF := Lib.hid hfin
    clear hfin hM4 hX4
    generalize (searchL D L exact (n - 1) rest true []).length = ln at lb4 HF ⊢
    go_wp2
    go_ret
    exact HF.out)
theorem collect_any {w0 w : World} {A : Option Addr} {c : Nat} {m : List (List Int)} {bound : Int} {exact : Bool} (h : Mat64 w0 A m) (hf : FormOK m) (h64 : St64 m) (hb0 : 0 ≤ bound) (hb1 : 1 < m.length → bound < 1073741824) (hr : m.length = 1 → isq (bound / ent m 0 0).toNat ≤ 1048576) (hlen : (collL m bound exact).length ≤ 1073741824) [hx : Ext w0 w] :
    Calls Tryz.prog 29 #[.slice A m.length c, .int .i64 bound, .bool exact] w (RetMatL w (collL m bound exact)) := by
  have h1 := hf.len1
  by_cases hm : m.length = 1
  · have hN := hf.num 0 (by omega) (by omega)
    have d1 := hN.d1 1 (by omega)
    have d2 := hN.d2 1 (by omega)
    have e : vD (minorsTo m m.length) 1 = ent m 0 0 := by rw [hm]; simp [vD, minorsTo, stAt]
    rw [e] at d1 d2
    exact collect_one h hm (by have := hf.all; rwa [hm] at this) d1 d2 hb0 (hr hm)
  · have e : collL m bound exact = searchL (minorsTo m m.length) (lamTo m m.length) exact (m.length - 1) (vD (minorsTo m m.length) m.length * bound) true [] := by rw [collL, if_neg hm]
    rw [e] at hlen ⊢
    exact collect_many h (by omega) hf h64 hb0 (hb1 (by omega)) hlen
end Go.Proofs.YtaaldapmkhamlaaGreat

/-
  Contracts of functions of the program, joined: Tr17, Awk12, Lim12. No statement of the seat is proved here.
-/
import Derived.Test.YtaaldapmkhamlaaGreatJ13
import Derived.Test.YtaaldapmkhamlaaGreatJ10
set_option linter.unusedVariables false
set_option linter.unusedSimpArgs false
set_option linter.constructorNameAsVariable false
namespace Go.Proofs.YtaaldapmkhamlaaGreat
open Go.RowKit
def RetIv (w : World) (C : List (Int × Int)) (e : Ending) (w' : World) : Prop := ∃ A c, e = .returned (.slice A C.length c) ∧ IvV w' A C ∧ C.length ≤ c ∧ c ≤ 9223372036854775807 ∧ Step w w'
/-- The world in which the search begins. -/
theorem EMem.start {w1 : World} {n mc lc : Nat} {mA lA : Option Addr} (hn : 1 ≤ n) :
    XRow (((((w1.alloc (.cells #[.slice mA (n + 1) mc, .slice lA n lc] 65)).alloc (.cells (mkCells #[.int .i64 0] n) 2)).alloc (.cells #[.slice (some ⟨w1.heap.size + 1, 0, none⟩) n n] 22)).alloc (.cells #[.slice none 0 0] 36)).alloc (.cells #[.func (.func 107) #[] #[.pointer (some ⟨w1.heap.size, 0, none⟩), .pointer (some ⟨w1.heap.size + 1 + 1, 0, none⟩), .pointer (some ⟨w1.heap.size + 1 + 1 + 1, 0, none⟩), .pointer (some ⟨w1.heap.size + 1 + 1 + 1 + 1, 0, none⟩)]] 185)) (w1.heap.size + 1) n (n - 1) [] ∧
    EMem w1 (((((w1.alloc (.cells #[.slice mA (n + 1) mc, .slice lA n lc] 65)).alloc (.cells (mkCells #[.int .i64 0] n) 2)).alloc (.cells #[.slice (some ⟨w1.heap.size + 1, 0, none⟩) n n] 22)).alloc (.cells #[.slice none 0 0] 36)).alloc (.cells #[.func (.func 107) #[] #[.pointer (some ⟨w1.heap.size, 0, none⟩), .pointer (some ⟨w1.heap.size + 1 + 1, 0, none⟩), .pointer (some ⟨w1.heap.size + 1 + 1 + 1, 0, none⟩), .pointer (some ⟨w1.heap.size + 1 + 1 + 1 + 1, 0, none⟩)]] 185)) n mA lA mc lc none 0 [] := by
  generalize e1 : w1.alloc (.cells #[.slice mA (n + 1) mc, .slice lA n lc] 65) = W1
  generalize e2 : W1.alloc (.cells (mkCells #[.int .i64 0] n) 2) = W2
  generalize e3 : W2.alloc (.cells #[.slice (some ⟨w1.heap.size + 1, 0, none⟩) n n] 22) = W3
  generalize e4 : W3.alloc (.cells #[.slice none 0 0] 36) = W4
  generalize e5 : W4.alloc (.cells #[.func (.func 107) #[] #[.pointer (some ⟨w1.heap.size, 0, none⟩), .pointer (some ⟨w1.heap.size + 1 + 1, 0, none⟩), .pointer (some ⟨w1.heap.size + 1 + 1 + 1, 0, none⟩), .pointer (some ⟨w1.heap.size + 1 + 1 + 1 + 1, 0, none⟩)]] 185) = W5
  have s1 : W1.heap.size = w1.heap.size + 1 := by rw [← e1, World.size_alloc]
  have s2 : W2.heap.size = w1.heap.size + 2 := by rw [← e2, World.size_alloc, s1]
  have s3 : W3.heap.size = w1.heap.size + 3 := by rw [← e3, World.size_alloc, s2]
  have s4 : W4.heap.size = w1.heap.size + 4 := by rw [← e4, World.size_alloc, s3]
  have s5 : W5.heap.size = w1.heap.size + 5 := by rw [← e5, World.size_alloc, s4]
  have x1 : Ext w1 W1 := by rw [← e1]; infer_instance
  have x2 : Ext W1 W2 := by rw [← e2]; infer_instance
  have x3 : Ext W2 W3 := by rw [← e3]; infer_instance
  have x4 : Ext W3 W4 := by rw [← e4]; infer_instance
  have x5 : Ext W4 W5 := by rw [← e5]; infer_instance
  have h1 := heap_alloc_new w1 (.cells #[.slice mA (n + 1) mc, .slice lA n lc] 65)
  have h2 := heap_alloc_new W1 (.cells (mkCells #[.int .i64 0] n) 2)
  have h3 := heap_alloc_new W2 (.cells #[.slice (some ⟨w1.heap.size + 1, 0, none⟩) n n] 22)
  have h4 := heap_alloc_new W3 (.cells #[.slice none 0 0] 36)
  have h5 := heap_alloc_new W4 (.cells #[.func (.func 107) #[] #[.pointer (some ⟨w1.heap.size, 0, none⟩), .pointer (some ⟨w1.heap.size + 1 + 1, 0, none⟩), .pointer (some ⟨w1.heap.size + 1 + 1 + 1, 0, none⟩), .pointer (some ⟨w1.heap.size + 1 + 1 + 1 + 1, 0, none⟩)]] 185)
  rw [e1] at h1
  rw [e2, s1] at h2
  rw [e3, s2] at h3
  rw [e4, s3] at h4
  rw [e5, s4] at h5
  have x35 := x4.trans x5
  have x25 := x3.trans x35
  have x15 := x2.trans x25
  refine ⟨⟨List.replicate n 0, ?_, by simp, by simp; omega⟩, x1.trans x15, heap_of_ext x15 h1, heap_of_ext x35 h3, heap_of_ext x5 h4, h5, Own.nil _ _ _ _, by omega⟩
  have : (mkCells #[.int .i64 0] n) = ((List.replicate n (0 : Int)).map (Value.int .i64)).toArray := by
    apply Array.ext'
    rw [mkCells_one]; simp
  rw [this] at h2
  exact heap_of_ext x25 h2
set_option maxHeartbeats 1000000 in
theorem intervals_many {w0 w : World} {A : Option Addr} {c : Nat} {m : List (List Int)} {bound : Int} (h : Mat64 w0 A m) (h2 : 2 ≤ m.length) (hf : FormOK m) (h64 : St64 m) (hb0 : 0 ≤ bound) (hb1 : bound < 1073741824) (hlen : (treeE (minorsTo m m.length) (lamTo m m.length) (m.length - 1) (vD (minorsTo m m.length) m.length * bound) []).length ≤ 1073741824) (hbd : ∀ p ∈ treeE (minorsTo m m.length) (lamTo m m.length) (m.length - 1) (vD (minorsTo m m.length) m.length * bound) [], -9223372036854775808 ≤ p.1 ∧ p.1 ≤ 9223372036854775807 ∧ -9223372036854775808 ≤ p.2 ∧ p.2 ≤ 9223372036854775807) [hx : Ext w0 w] :
    Calls Tryz.prog 66 #[.slice A m.length c, .int .i64 bound] w (RetIv w (treeE (minorsTo m m.length) (lamTo m m.length) (m.length - 1) (vD (minorsTo m m.length) m.length * bound) [])) := by
  have hN := hf.num bound hb0 hb1
  have h8 := hN.n8
  have hnf := fun W (hh : Ext w0 W) => tnewForm_any (w := W) (c := c) h hf.len1 h8 hf.all hf.fits hf.elim h64
  have hDl : (minorsTo m m.length).length = m.length + 1 := minorsTo_length m _
  have hLl : (lamTo m m.length).length = m.length := by simp [lamTo]
  obtain ⟨D, hD⟩ : ∃ D, D = minorsTo m m.length := ⟨_, rfl⟩
  obtain ⟨L, hL⟩ : ∃ L, L = lamTo m m.length := ⟨_, rfl⟩
  rw [← hD, ← hL] at hnf hN hlen hbd ⊢
  rw [← hD] at hDl
  rw [← hL] at hLl
  unfold TRetForm at hnf
  rw [hDl, hLl] at hnf
  obtain ⟨n, hn⟩ : ∃ n, n = m.length := ⟨_, rfl⟩
  rw [← hn] at hnf hN hDl hLl h2 h8 hlen hbd ⊢
  obtain ⟨dn, hdn⟩ : ∃ dn, dn = vD D n := ⟨_, rfl⟩
  have e1 := hN.d1 n (by omega)
  have e2 := hN.d2 n (by omega)
  rw [← hdn] at e1 e2 hlen hbd ⊢
  have hm1 : 0 ≤ dn * bound := Int.mul_nonneg (by omega) (by omega)
  have hm2 : dn * bound ≤ 65535 * 1073741823 := Int.mul_le_mul (by omega) (by omega) (by omega) (by omega)
  have hlev : LevOK D n bound (n - 1) (dn * bound) [] := ⟨by omega, hm1, by rw [show n - 1 + 1 = n by omega, hdn]; exact Int.le_refl _, by simp, by simp [absSum]⟩
  obtain ⟨rest, hrest⟩ : ∃ rest, dn * bound = rest := ⟨_, rfl⟩
  rw [hrest] at hm1 hm2 hlev hlen hbd ⊢
  have hdi : D[n]? = some dn := by rw [hdn]; unfold vD; simp [show n < D.length by omega]
  have HNF := Lib.hid hnf
  have HDL := Lib.hid hDl
  have HLEV := Lib.hid hlev
  have HLEN := Lib.hid hlen
  have HDI := Lib.hid hdi
  have HBD := Lib.hid hbd
  have hne : ((n : Int) == 1) = false := by simp; omega
  have hmk := run_make_any (P := Tryz.prog) Tryz.underlying22 infoI64 (by omega) (n : Int) (by omega) (by omega)
  clear hnf hD hL hn hDl hLl hlev hdi hdn hlen hf h64 hbd
  go_enter Tryz.func66, Tryz.ntmps66
  go_wp2_with (go_at_call 62; refine (HNF.out _ inferInstance).mono ?_; clear HNF; rintro e w1 ⟨mA, mc, lA, lc, rfl, hDX, hLX, d1, d2, d3, d4, hs1⟩)
  have hfv := Mat64X.fv (P := fun _ => True) hDX hLX (Ext.refl _) (fun _ _ _ => trivial)
  have hD := hfv.ints
  have hL := hfv.mat
  clear hDX hLX hfv
  obtain ⟨hX, hM⟩ := EMem.start (mA := mA) (lA := lA) (mc := mc) (lc := lc) (n := n) (by omega)
  generalize (((((w1.alloc (.cells #[.slice mA (n + 1) mc, .slice lA n lc] 65)).alloc (.cells (mkCells #[.int .i64 0] n) 2)).alloc (.cells #[.slice (some ⟨w1.heap.size + 1, 0, none⟩) n n] 22)).alloc (.cells #[.slice none 0 0] 36)).alloc (.cells #[.func (.func 107) #[] #[.pointer (some ⟨w1.heap.size, 0, none⟩), .pointer (some ⟨w1.heap.size + 1 + 1, 0, none⟩), .pointer (some ⟨w1.heap.size + 1 + 1 + 1, 0, none⟩), .pointer (some ⟨w1.heap.size + 1 + 1 + 1 + 1, 0, none⟩)]] 185)) = W at hX hM ⊢
  obtain ⟨f1, f2, f3, f4, f5⟩ := box_cells2 hM.fb
  have sb1 : W.cell? ⟨w1.heap.size + 1 + 1 + 1 + 1, 0, none⟩ = some (.func (.func 107) #[] #[.pointer (some ⟨w1.heap.size, 0, none⟩), .pointer (some ⟨w1.heap.size + 1 + 1, 0, none⟩), .pointer (some ⟨w1.heap.size + 1 + 1 + 1, 0, none⟩), .pointer (some ⟨w1.heap.size + 1 + 1 + 1 + 1, 0, none⟩)]) := by
    have : W.cell? ⟨w1.heap.size + 4, 0, none⟩ = some (.func (.func 107) #[] (eCaps w1.heap.size)) := by simp [World.cell?, hM.sb]
    exact this
  obtain ⟨bm, om, -, rfl, -⟩ := hD.at_ (i := n) (by have := HDL.out; omega)
  obtain ⟨m3, m4⟩ := ints_cell (hD.ext hM.ext) HDI.out
  have hcall := fun (W' : World) hX' hM' => emit_any (mc := mc) (lc := lc) hD hL hN (n - 1) rest [] W' none 0 [] HLEV.out hX' hM' (by rw [List.nil_append]; exact HLEN.out)
  rw [show ((n - 1 : Nat) : Int) = (n : Int) - 1 by omega, List.nil_append] at hcall
  unfold eCaps at hcall
  simp only [List.append_toArray, List.cons_append, List.nil_append] at hcall
  have HC := Lib.hid hcall
  have hfn := isFn_emit
  unfold IsFn at hfn
  have HX := Lib.hid hX
  have HM := Lib.hid hM
  have w1e : IntKind.i64.wrap ((n : Int) - 1) = (n : Int) - 1 := IntWalk.i64_in _ (by omega)
  have w2e : IntKind.i64.wrap rest = rest := IntWalk.i64_in _ (by omega)
  clear hcall hX hM
  go_region_with (refine (HC.out _ HX.out.drew (HM.out.to (ext_drew _))).mono ?_; rintro e W3 ⟨rfl, hX4, lB4, c4, hM4⟩)
  all_goals (
    have lb4 : W3.cell? ⟨w1.heap.size + 1 + 1 + 1, 0, none⟩ = some (.slice lB4 (treeE D L (n - 1) rest []).length c4) := by
      have : W3.cell? ⟨w1.heap.size + 3, 0, none⟩ = some (.slice lB4 (treeE D L (n - 1) rest []).length c4) := by simp [World.cell?, hM4.lb]
      exact this
    have hlt4 : w1.heap.size + 1 + 1 + 1 < W3.heap.size := by have := hM4.sz; omega
    have hfin : RetIv w (treeE D L (n - 1) rest []) (.returned (.slice lB4 (treeE D L (n - 1) rest []).length c4)) W3 := by
      have hc := hM4.ls.cap
      have hxw : Ext w w1 := inferInstance
      exact ⟨lB4, c4, rfl, ⟨hM4.ls.arr, HBD.out⟩, hc.1, hc.2, (hxw.trans hM4.ext).toStep⟩
    have HF := Lib.hid hfin
    clear hfin hM4 hX4
    generalize (treeE D L (n - 1) rest []).length = ln at lb4 HF ⊢
    go_wp2
    go_ret
    exact HF.out)
end Go.Proofs.YtaaldapmkhamlaaGreat
namespace Go.Proofs.YtaaldapmkhamlaaGreat
open Go.RowKit
theorem Emit_many {w0 w : World} {A : Option Addr} {c : Nat} {m : List (List Int)} {bound budget : Int} {st : List Int} (h : Mat64 w0 A m) (hc : m.length ≤ c) (hc2 : c ≤ 9223372036854775807) (h2 : 2 ≤ m.length) (hf : FormOK m) (h64 : St64 m) (h8 : m.length ≤ 8) (hb0 : 0 ≤ bound) (hb1 : bound < 1073741824) (hs : stepsSpec m bound budget = (st, 0)) {C : List (Int × Int)} (hC : treeE (minorsTo m m.length) (lamTo m m.length) (m.length - 1) (vD (minorsTo m m.length) m.length * bound) [] = C) (hlen : C.length ≤ 1073741824) (hbd : ∀ p ∈ C, -9223372036854775808 ≤ p.1 ∧ p.1 ≤ 9223372036854775807 ∧ -9223372036854775808 ≤ p.2 ∧ p.2 ≤ 9223372036854775807) [hx : Ext w0 w] :
    Calls Tryz.prog 34 #[.slice A m.length c, .int .i64 bound, .int .i64 budget] w fun e w' => ∃ B d, e = .returned (.tuple #[.slice B C.length d, .int .i64 0]) ∧ IvV w' B C ∧ Step w w' := by
  have hst := fun W (hh : Ext w0 W) => Steps_any (w := W) (bound := bound) (budget := budget) h (by omega) hc hc2 (fun _ => hf)
  rw [hs] at hst
  have hiv := fun W (hh : Ext w0 W) => intervals_many (w := W) (c := c) h h2 hf h64 hb0 hb1 (by rw [hC]; exact hlen) (by rw [hC]; exact hbd)
  rw [hC] at hiv
  have HST := Lib.hid hst
  have HIV := Lib.hid hiv
  clear hst hiv hs hC hf
  go_enter Tryz.func34, Tryz.ntmps34
  go_wp2_with (first
    | (go_at_call 26; refine (HST.out _ inferInstance).mono ?_; rintro e w1 ⟨A1, c1, rfl, hI, k1, k2, hs1⟩)
    | (go_at_call 66; refine (HIV.out _ inferInstance).mono ?_; rintro e w2 ⟨A2, c2, rfl, hI2, k3, k4, hs2⟩))
  go_ret2
  exact ⟨A2, c2, rfl, hI2, Step.of _ _⟩
theorem chkN_m1 (bound : Int) (h0 : 0 ≤ bound) (h1 : bound ≤ 4611686018427387904) : ChkN (minorsTo m1 1) (lamTo m1 1) 1 bound := by
  rw [minors_m1, lam_m1]
  refine ⟨by decide, by decide, rfl, rfl, by decide, by decide, by decide, by decide, h0, fun k hk => ?_⟩
  obtain rfl : k = 0 := by omega
  show (1 : Int) * bound * 1 < _
  omega
theorem chkN_m2 : ChkN (minorsTo m2 2) (lamTo m2 2) 2 2 := by
  rw [minors_m2, lam_m2]
  exact ⟨by decide, by decide, rfl, rfl, by decide, by decide, by decide, by decide, by decide, by decide⟩
theorem tree_m1 (bound : Int) (h0 : 0 ≤ bound) (h1 : bound ≤ 4611686018427387904) : TreeOK m1 bound := ⟨form_m1, s64_m1, red_m1, h0, h1, chkN_m1 bound h0 h1⟩
theorem tree_m2 : TreeOK m2 2 := ⟨form_m2, s64_m2, red_m2, by decide, by decide, chkN_m2⟩
def ivs_m2 : List (Int × Int) := [(-1, 1), (0, 1), (-1, 1), (-1, 0)]
theorem treeE_m2 : treeE (minorsTo m2 m2.length) (lamTo m2 m2.length) (m2.length - 1) (vD (minorsTo m2 m2.length) m2.length * 2) [] = ivs_m2 := by decide
def col_m2 : List (List Int) := [[1, -1], [1, 0], [0, 1]]
theorem treeR_m2 : treeR m2 2 ivs_m2 = some col_m2 := by decide
theorem sorted_col_m2 {L : List (List Int)} (hp : L.Perm (col_m2.map canonL)) (hw : L.Pairwise (fun x y => cmpK (nrm m2 x) (nrm m2 y) x y < 0)) : L = vecs_m2 :=
  sorted_eq hp hw (by decide) (by decide) (by decide)
theorem Verify_m2 {w0 w : World} {A B : Option Addr} {d : Nat} (h : Mat64 w0 A m2) (hC : IvV w0 B ivs_m2) [hx : Ext w0 w] :
    Calls Tryz.prog 12 #[.slice A 2 2, .int .i64 2, .slice B 4 d] w fun e w' => ∃ X c, e = .returned (.tuple #[.slice X 3 c, .int .i64 0]) ∧ Mat64 w' X vecs_m2 ∧ Step w w' := by
  have hv : ∀ l, treeR m2 2 ivs_m2 = some l → l.length ≤ 4096 → (∀ x ∈ l, VecOK m2 x) ∧ (l.map canonL).Nodup := fun l hl _ => by
    rw [treeR_m2] at hl
    injection hl with hl
    subst hl
    refine ⟨fun x hx => ?_, by decide⟩
    simp only [col_m2, List.mem_cons, List.not_mem_nil, or_false] at hx
    rcases hx with rfl | rfl | rfl <;> exact ⟨by decide, by decide, by decide⟩
  have := Verify_any (w := w) (c := 2) (d := d) h (by decide) (by decide) tree_m2 hC (by decide) hv
  rw [treeR_m2] at this
  refine this.mono ?_
  intro e w' hp
  simp only at hp
  rw [if_neg (by decide)] at hp
  obtain ⟨X, c, L, he, hM, _, _, h1, h2, hs⟩ := hp
  obtain rfl := sorted_col_m2 h1 h2
  exact ⟨X, c, he, hM, hs⟩
theorem Emit_m2 {w0 w : World} {A : Option Addr} (h : Mat64 w0 A m2) [hx : Ext w0 w] :
    Calls Tryz.prog 34 #[.slice A 2 2, .int .i64 2, .int .i64 100] w fun e w' => ∃ B d, e = .returned (.tuple #[.slice B 4 d, .int .i64 0]) ∧ IvV w' B ivs_m2 ∧ Step w w' :=
  Emit_many (c := 2) h (by decide) (by decide) (by decide) form_m2 s64_m2 (by decide) (by decide) (by decide) steps_m2 treeE_m2 (by decide) (by decide)
theorem ivs_lit (w : World) : IvV (w.alloc (.cells #[.int .i64 (-1), .int .i64 1, .int .i64 0, .int .i64 1, .int .i64 (-1), .int .i64 1, .int .i64 (-1), .int .i64 0] 35)) (some ⟨w.heap.size, 0, none⟩) ivs_m2 :=
  ⟨Arr.new w 35 #[.int .i64 (-1), .int .i64 1, .int .i64 0, .int .i64 1, .int .i64 (-1), .int .i64 1, .int .i64 (-1), .int .i64 0], by decide⟩
theorem iv_lit (w : World) (a b : Int) (h1 : -9223372036854775808 ≤ a ∧ a ≤ 9223372036854775807) (h2 : -9223372036854775808 ≤ b ∧ b ≤ 9223372036854775807) : IvV (w.alloc (.cells #[.int .i64 a, .int .i64 b] 35)) (some ⟨w.heap.size, 0, none⟩) [(a, b)] :=
  ⟨Arr.new w 35 #[.int .i64 a, .int .i64 b], fun p hp => by obtain rfl := List.mem_singleton.1 hp; exact ⟨h1.1, h1.2, h2.1, h2.2⟩⟩
theorem mat32S (w : World) (s : Nat) (hs : w.heap.size = s) (a b c d e f : Int) : Mat64 ((((w.alloc (.cells #[.int .i64 a, .int .i64 b] 2)).alloc (.cells #[.int .i64 c, .int .i64 d] 2)).alloc (.cells #[.int .i64 e, .int .i64 f] 2)).alloc (.cells #[.slice (some ⟨s, 0, none⟩) 2 2, .slice (some ⟨s + 1, 0, none⟩) 2 2, .slice (some ⟨s + 1 + 1, 0, none⟩) 2 2] 22)) (some ⟨s + 1 + 1 + 1, 0, none⟩) [[a, b], [c, d], [e, f]] := by
  subst hs; exact mat32 w a b c d e f
set_option maxRecDepth 100000 in
set_option maxHeartbeats 1000000 in
theorem awake12_any {w : World} : Calls Tryz.prog 13 #[] w (RetVal w (.bool true)) := by
  have HE : Hid (∀ W0 W A, Mat64 W0 A m2 → Ext W0 W → Calls Tryz.prog 34 #[.slice A 2 2, .int .i64 2, .int .i64 100] W fun e w' => ∃ B d, e = .returned (.tuple #[.slice B 4 d, .int .i64 0]) ∧ IvV w' B ivs_m2 ∧ Step W w') := Lib.hid (fun W0 W A h hx => Emit_m2 h)
  have HV : Hid (∀ W A B d, Mat64 W A m2 → IvV W B ivs_m2 → Calls Tryz.prog 12 #[.slice A 2 2, .int .i64 2, .slice B 4 d] W fun e w' => ∃ X c, e = .returned (.tuple #[.slice X 3 c, .int .i64 0]) ∧ Mat64 w' X vecs_m2 ∧ Step W w') := Lib.hid (fun W A B d h hC => Verify_m2 h hC)
  have HSI : Hid (∀ W B c C d, IvV W B ivs_m2 → IvV W C ivs_m2 → Calls Tryz.prog 35 #[.slice B 4 c, .slice C 4 d] W (RetQ W (.bool true))) := Lib.hid (fun W B c C d h1 h2 => SameIntervals_any (w0 := W) (w := W) (c := c) (d := d) h1 h2 (by simp [ivs_m2]))
  have HS : Hid (∀ W B c C d, Mat64 W B vecs_m2 → Mat64 W C vecs_m2 → Calls Tryz.prog 30 #[.slice B 3 c, .slice C 3 d] W (RetQ W (.bool true))) := Lib.hid (fun W B c C d h1 h2 => ref09_Same_any (w0 := W) (w := W) (c := c) (d := d) h1 h2 (by decide) (by decide) (by decide) (by decide))
  have hM := mat22 w 2 1 1 2
  have HM := Lib.hid hM
  clear hM
  go_enter Tryz.func13, Tryz.ntmps13
  go_wp2_with (first
    | (go_at_call 34; refine (HE.out _ _ _ HM.out inferInstance).mono ?_; rintro e w1 ⟨B1, d1, rfl, hI1, hs1⟩)
    | (go_at_call 12; refine (HV.out _ _ _ _ (HM.out.ext inferInstance) hI1).mono ?_; rintro e w2 ⟨X2, c2, rfl, hM2, hs2⟩)
    | (go_at_call 35; refine (HSI.out _ _ _ _ _ (hI1.ext inferInstance) (ivs_lit w2)).mono ?_; rintro e w3 ⟨rfl, n3, rfl⟩)
    | (go_at_call 30; refine (HS.out _ _ _ _ _ (hM2.ext inferInstance) (mat32S ((w2.alloc (.cells #[.int .i64 (-1), .int .i64 1, .int .i64 0, .int .i64 1, .int .i64 (-1), .int .i64 1, .int .i64 (-1), .int .i64 0] 35)).drewN n3) (w2.heap.size + 1) Sz.eq 0 1 1 (-1) 1 0)).mono ?_; rintro e w4 ⟨rfl, n4, rfl⟩))
  go_ret
  exact ⟨rfl, Step.of _ _⟩
end Go.Proofs.YtaaldapmkhamlaaGreat
namespace Go.Proofs.YtaaldapmkhamlaaGreat
open Go.RowKit
set_option linter.constructorNameAsVariable false
theorem colTo_eq (k : Nat) : colTo [] 1 k = (List.range k).map fun (i : Nat) => [(i : Int) + 1] := by
  unfold colTo
  refine List.map_congr_left fun i _ => ?_
  rw [Int.add_comm]
theorem sq_lt {a b : Int} (h0 : 0 < a) (h : a < b) : a * a < b * b := Int.mul_lt_mul h (by omega) (by omega) (by omega)
theorem lvl_m1 (k hi : Int) : lvlAt (minorsTo m1 1) (lamTo m1 1) 0 [0] [0, k * k * 1] hi = ⟨1, 0, k * k, hi⟩ := by
  rw [minors_m1, lam_m1]
  unfold lvlAt
  simp [vD, dotL]
theorem insB_m1 (k x : Int) : insB 1 0 (k * k) x = !decide (k * k < x * x) := by
  unfold insB lvU; simp
theorem acc_m1 (k : Nat) (h1 : 1 ≤ k) (hk : k ≤ 9999) : accB 1 0 ((k : Int) * k) (-(k : Int)) k = true := by
  have a1 : insB 1 0 ((k : Int) * k) (-(k : Int) - 1) = false := by
    rw [insB_m1]
    have := sq_lt (a := (k : Int)) (b := (k : Int) + 1) (by omega) (by omega)
    have e : (-(k : Int) - 1) * (-(k : Int) - 1) = ((k : Int) + 1) * ((k : Int) + 1) := by rw [show -(k : Int) - 1 = -((k : Int) + 1) by omega, Int.neg_mul_neg]
    simp [e, this]
  have a2 : insB 1 0 ((k : Int) * k) ((k : Int) + 1) = false := by
    rw [insB_m1]
    have := sq_lt (a := (k : Int)) (b := (k : Int) + 1) (by omega) (by omega)
    simp [this]
  have a3 : insB 1 0 ((k : Int) * k) (-(k : Int)) = true := by rw [insB_m1, Int.neg_mul_neg]; simp
  have a4 : insB 1 0 ((k : Int) * k) (k : Int) = true := by rw [insB_m1]; simp
  rw [accB, if_neg (by omega), a1, a2, if_neg (by simp), if_pos (by omega), a3, a4]; rfl
theorem acc_m1_no (k : Nat) (h1 : 1 ≤ k) (hk : k ≤ 9999) : accB 1 0 ((k : Int) * k) (-(k : Int)) ((k : Int) - 1) = false := by
  have a2 : insB 1 0 ((k : Int) * k) ((k : Int) - 1 + 1) = true := by rw [insB_m1, show (k : Int) - 1 + 1 = k by omega]; simp
  rw [accB, if_neg (by omega), a2, if_pos (by simp)]
theorem treeR_m1 (k : Nat) (h1 : 1 ≤ k) (hk : k ≤ 9999) : treeR m1 ((k : Int) * k) [(-(k : Int), (k : Int))] = some (colTo [] 1 (min k 4097)) := by
  have hD : vD (minorsTo m1 1) 1 = 1 := by rw [minors_m1]; rfl
  have hl : m1.length = 1 := rfl
  unfold treeR
  rw [hl, hD]
  show chk (minorsTo m1 1) (lamTo m1 1) 1 [(-(k : Int), (k : Int))] 0 [0] [0, (k : Int) * k * 1] [lvl0] [] = _
  rw [chk]
  simp only [lvl_m1]
  rw [acc_m1 k h1 hk, if_pos rfl, if_neg (by omega), upK_out (by omega)]
  simp only [colAt, if_true, List.tail_cons, List.length_nil, List.nil_append]
  have hc : cLo [] (-(k : Int)) = 1 := by rw [cLo, if_neg (by simp [firstNZ])]; omega
  rw [hc, colN, show ((k : Int) - 1 + 1).toNat = k by omega]
theorem treeR_m1_no (k : Nat) (h1 : 1 ≤ k) (hk : k ≤ 9999) : treeR m1 ((k : Int) * k) [(-(k : Int), (k : Int) - 1)] = none := by
  have hD : vD (minorsTo m1 1) 1 = 1 := by rw [minors_m1]; rfl
  have hl : m1.length = 1 := rfl
  unfold treeR
  rw [hl, hD]
  show chk (minorsTo m1 1) (lamTo m1 1) 1 [(-(k : Int), (k : Int) - 1)] 0 [0] [0, (k : Int) * k * 1] [lvl0] [] = _
  rw [chk]
  simp only [lvl_m1]
  rw [acc_m1_no k h1 hk]; rfl
theorem vecs_colTo (j : Nat) (hj : j ≤ 9999) : (∀ x ∈ colTo [] 1 j, VecOK m1 x) ∧ ((colTo [] 1 j).map canonL).Nodup := by
  rw [colTo_eq]
  constructor
  · intro x hx
    obtain ⟨i, hi, rfl⟩ := List.mem_map.1 hx
    have := List.mem_range.1 hi
    exact vec_m1 _ (by omega) (by omega)
  · rw [canon_all, List.Nodup, List.pairwise_map]
    refine List.Pairwise.imp ?_ (List.nodup_range (n := j))
    intro a b hab h
    injection h with h
    omega
theorem kk_le (k : Nat) (hk : k ≤ 9999) : 0 ≤ (k : Int) * k ∧ (k : Int) * k ≤ 4611686018427387904 := by
  have h1 : (k : Int) * k ≤ 9999 * 9999 := Int.mul_le_mul (by omega) (by omega) (by omega) (by omega)
  have h0 : 0 ≤ (k : Int) * k := Int.mul_nonneg (by omega) (by omega)
  omega
theorem Verify_m1 {w0 w : World} {A B : Option Addr} {d : Nat} (k : Nat) (h1 : 1 ≤ k) (hk : k ≤ 4096) (h : Mat64 w0 A m1) (hC : IvV w0 B [(-(k : Int), (k : Int))]) [hx : Ext w0 w] :
    Calls Tryz.prog 12 #[.slice A 1 1, .int .i64 ((k : Int) * k), .slice B 1 d] w fun e w' => ∃ X c, e = .returned (.tuple #[.slice X k c, .int .i64 0]) ∧ Step w w' := by
  have hkk := kk_le k (by omega)
  have hr := treeR_m1 k h1 (by omega)
  rw [show min k 4097 = k by omega] at hr
  have hv : ∀ l, treeR m1 ((k : Int) * k) [(-(k : Int), (k : Int))] = some l → l.length ≤ 4096 → (∀ x ∈ l, VecOK m1 x) ∧ (l.map canonL).Nodup := fun l hl _ => by
    rw [hr] at hl
    injection hl with hl
    subst hl
    exact vecs_colTo k (by omega)
  have hl1 : m1.length = 1 := rfl
  have := Verify_any (w := w) (c := 1) (d := d) h (by omega) (by omega) (tree_m1 _ hkk.1 hkk.2) hC (by simp) hv
  rw [hr] at this
  refine this.mono ?_
  intro e w' hp
  simp only at hp
  rw [if_neg (by rw [colTo_length]; omega)] at hp
  obtain ⟨X, c, L, he, hM, _, _, h1, h2, hs⟩ := hp
  have hlen := h1.length_eq
  rw [List.length_map, colTo_length] at hlen
  rw [hlen] at he
  exact ⟨X, c, he, hs⟩
theorem Verify_m1_big {w0 w : World} {A B : Option Addr} {d : Nat} (k : Nat) (h1 : 4097 ≤ k) (hk : k ≤ 9999) (h : Mat64 w0 A m1) (hC : IvV w0 B [(-(k : Int), (k : Int))]) [hx : Ext w0 w] :
    Calls Tryz.prog 12 #[.slice A 1 1, .int .i64 ((k : Int) * k), .slice B 1 d] w (RetVal w (.tuple #[.slice none 0 0, .int .i64 7])) := by
  have hkk := kk_le k hk
  have hr := treeR_m1 k (by omega) hk
  rw [show min k 4097 = 4097 by omega] at hr
  have hv : ∀ l, treeR m1 ((k : Int) * k) [(-(k : Int), (k : Int))] = some l → l.length ≤ 4096 → (∀ x ∈ l, VecOK m1 x) ∧ (l.map canonL).Nodup := fun l hl hll => by
    rw [hr] at hl
    injection hl with hl
    subst hl
    rw [colTo_length] at hll
    omega
  have hl1 : m1.length = 1 := rfl
  have := Verify_any (w := w) (c := 1) (d := d) h (by omega) (by omega) (tree_m1 _ hkk.1 hkk.2) hC (by simp) hv
  rw [hr] at this
  refine this.mono ?_
  intro e w' hp
  simp only at hp
  rw [if_pos (by rw [colTo_length]; omega)] at hp
  exact hp
theorem Verify_m1_no {w0 w : World} {A B : Option Addr} {d : Nat} (k : Nat) (h1 : 1 ≤ k) (hk : k ≤ 9999) (h : Mat64 w0 A m1) (hC : IvV w0 B [(-(k : Int), (k : Int) - 1)]) [hx : Ext w0 w] :
    Calls Tryz.prog 12 #[.slice A 1 1, .int .i64 ((k : Int) * k), .slice B 1 d] w (RetVal w (.tuple #[.slice none 0 0, .int .i64 10])) := by
  have hkk := kk_le k hk
  have hr := treeR_m1_no k h1 hk
  have hl1 : m1.length = 1 := rfl
  have := Verify_any (w := w) (c := 1) (d := d) h (by omega) (by omega) (tree_m1 _ hkk.1 hkk.2) hC (by simp) (fun l hl => by rw [hr] at hl; cases hl)
  rw [hr] at this
  exact this
theorem ivS (w : World) (s : Nat) (hs : w.heap.size = s) (a b : Int) (h1 : -9223372036854775808 ≤ a ∧ a ≤ 9223372036854775807) (h2 : -9223372036854775808 ≤ b ∧ b ≤ 9223372036854775807) : IvV (w.alloc (.cells #[.int .i64 a, .int .i64 b] 35)) (some ⟨s, 0, none⟩) [(a, b)] := by
  subst hs; exact iv_lit w a b h1 h2
set_option maxHeartbeats 2000000 in
theorem TreeLimit_any {w : World} (u : Int) (h0 : 0 ≤ u) (h1 : u ≤ 255) : Calls Tryz.prog 4 #[.int .u8 u] w (RetVal w (.bool true)) := by
  obtain ⟨k, hk⟩ : ∃ k : Nat, 4095 + u % 3 = (k : Int) := ⟨(4095 + u % 3).toNat, by omega⟩
  have k1 : 4095 ≤ k := by omega
  have k2 : k ≤ 4097 := by omega
  have p1 : (k : Int) * k ≤ 4097 * 4097 := Int.mul_le_mul (by omega) (by omega) (by omega) (by omega)
  have p0 : 0 ≤ (k : Int) * k := Int.mul_nonneg (by omega) (by omega)
  have hW := fun (W0 W : World) A B dd (hM : Mat64 W0 A m1) (hI : IvV W0 B [(-(k : Int), (k : Int) - 1)]) (hx : Ext W0 W) => Verify_m1_no (w := W) (d := dd) k (by omega) (by omega) hM hI
  have HW := Lib.hid hW
  by_cases hb : k ≤ 4096
  · have hV := fun (W0 W : World) A B dd (hM : Mat64 W0 A m1) (hI : IvV W0 B [(-(k : Int), (k : Int))]) (hx : Ext W0 W) => Verify_m1 (w := W) k (by omega) hb (d := dd) hM hI
    have HV := Lib.hid hV
    obtain ⟨kk, hkk⟩ : ∃ kk, (k : Int) * k = kk := ⟨_, rfl⟩
    rw [hkk] at HV HW p0 p1
    have hd : decide (4096 < (k : Int)) = false := by simp; omega
    clear hV hW
    go_enter Tryz.func4, Tryz.ntmps4
    go_upto_region 3 with (go_at_call 12; refine (HV.out _ _ _ _ _ ((mat11 w 1).ext inferInstance) (ivS _ (w.heap.size + 1 + 1) Sz.eq _ _ (by omega) (by omega)) (Ext.refl _)).mono ?_; rintro e w1 ⟨X1, c1, rfl, hs1⟩)
    go_wp2_with (first
      | (go_at_call 12; refine (HW.out _ _ _ _ _ ((mat11 w1 1).ext inferInstance) (ivS _ (w1.heap.size + 1 + 1) Sz.eq _ _ (by omega) (by omega)) (Ext.refl _)).mono ?_; rintro e w2 ⟨rfl, hs2⟩)
      | (go_at_call 13; refine awake12_any.mono ?_; rintro e w4 ⟨rfl, hs4⟩))
    go_ret
    exact ⟨rfl, Step.of _ _⟩
  · have hV := fun (W0 W : World) A B dd (hM : Mat64 W0 A m1) (hI : IvV W0 B [(-(k : Int), (k : Int))]) (hx : Ext W0 W) => Verify_m1_big (w := W) k (by omega) (by omega) (d := dd) hM hI
    have HV := Lib.hid hV
    obtain ⟨kk, hkk⟩ : ∃ kk, (k : Int) * k = kk := ⟨_, rfl⟩
    rw [hkk] at HV HW p0 p1
    have hd : decide (4096 < (k : Int)) = true := by simp; omega
    clear hV hW
    go_enter Tryz.func4, Tryz.ntmps4
    go_upto_region 3 with (go_at_call 12; refine (HV.out _ _ _ _ _ ((mat11 w 1).ext inferInstance) (ivS _ (w.heap.size + 1 + 1) Sz.eq _ _ (by omega) (by omega)) (Ext.refl _)).mono ?_; rintro e w1 ⟨rfl, hs1⟩)
    go_wp2_with (first
      | (go_at_call 12; refine (HW.out _ _ _ _ _ ((mat11 w1 1).ext inferInstance) (ivS _ (w1.heap.size + 1 + 1) Sz.eq _ _ (by omega) (by omega)) (Ext.refl _)).mono ?_; rintro e w2 ⟨rfl, hs2⟩)
      | (go_at_call 13; refine awake12_any.mono ?_; rintro e w4 ⟨rfl, hs4⟩))
    go_ret
    exact ⟨rfl, Step.of _ _⟩
end Go.Proofs.YtaaldapmkhamlaaGreat

/-
  The contract of Steps of the package schur.
-/
import Derived.Test.YtaaldapmkhamlaaGreatSteps1
namespace Go.Proofs.YtaaldapmkhamlaaGreat
open Go.RowKit Go.Shelf
attribute [local go_sem] Oper.semAt_some
theorem tails_any {w wN : World} {bound : Int} {D : List Int} {L : List (List Int)} {n : Nat} {mA lA : Option Addr} {mc lc : Nat} (hV : WalkV w wN bound D L n mA lA mc lc) (hN : ∀ b, 0 ≤ b → b < 1073741824 → NumOK D L n b) (hn : 1 ≤ n) (hb0 : 0 ≤ bound) (hb1 : bound ≤ 4611686018427387904) (hb2 : 1 < n → bound < 1073741824) (l : Nat) (J Jx : List (Int × Int) → World → Prop)
    (hJd : ∀ pre W, J pre W → J pre W.drew)
    (hJs : ∀ pre W i v, J pre W → J pre (W.setCell ⟨w.heap.size, i, none⟩ (.int .i64 v)))
    (hY : ∀ m pre x W, J pre W → ValidY n x → YieldAt Fence.wide m Tryz.prog l #[.int .i64 x.1, .int .i64 x.2] W fun e W' =>
      (e = .returned (.bool true) ∧ J (pre ++ [x]) W' ∧ KeepW w.heap.size wN.heap.size W W') ∨ (e = .returned (.bool false) ∧ Jx (pre ++ [x]) W'))
    (m : Nat) (W : World) (hK : KeepW w.heap.size wN.heap.size wN W) (hJ : J [] W) :
    CallsIn Fence.wide m Tryz.prog 47 #[.pointer (some ⟨w.heap.size + 1, 0, none⟩), .func (.yield l) #[] #[]] W fun e W' => (∃ v, e = .returned v) ∧ (J (tailsY D L n bound) W' ∨ ∃ q, q <+: tailsY D L n bound ∧ Jx q W') := by
  have h0 := hN 0 (by omega) (by omega)
  by_cases h1 : n = 1
  · subst h1
    exact tails_one hV h0.dl (h0.d1 1 (by omega)) (h0.d2 1 (by omega)) hb0 hb1 l J Jx hJd hY m W (hK.mono (Nat.le_succ _)) hJ
  · exact tails_many hV (hN bound hb0 (hb2 (by omega))) (by omega) l J Jx hJd hJs hY m W hK hJ
/-- The state of the loop of Steps in memory. -/
structure StepsI (w w1 : World) (n : Nat) (budget : Int) (pre : List (Int × Int)) (W : World) (left : Int) (st : List Int) : Prop where
  go : stepsGo pre budget (List.replicate n 0) = some (left, st)
  row : Row W w1.heap.size 3 .i64 st
  hd : W.heap[w1.heap.size + 1]? = some (.cells #[.slice (some ⟨w1.heap.size, 0, none⟩) n n] 47 (0, 0))
  lf : W.heap[w1.heap.size + 2]? = some (.cells #[.int .i64 left] 2 (0, 0))
  r1 : W.heap[w.heap.size]? = some (.cells #[.slice none 0 0] 47 (0, 0))
  r2 : W.heap[w.heap.size + 1]? = some (.cells #[.int .i64 0] 24 (0, 0))
  len : st.length = n
  l0 : 0 ≤ left
  l1 : left ≤ budget
  sb : ∀ x ∈ st, 0 ≤ x ∧ x ≤ budget - left
  be : Below w.heap.size w W
def StepsJ (w w1 : World) (n : Nat) (budget : Int) (pre : List (Int × Int)) (W : World) : Prop := ∃ left st, StepsI w w1 n budget pre W left st
structure StepsX (w w1 : World) (n : Nat) (budget : Int) (pre : List (Int × Int)) (W : World) : Prop where
  go : stepsGo pre budget (List.replicate n 0) = none
  r1 : W.heap[w.heap.size]? = some (.cells #[.slice none 0 0] 47 (0, 0))
  r2 : W.heap[w.heap.size + 1]? = some (.cells #[.int .i64 9] 24 (0, 0))
  be : Below w.heap.size w W
theorem OnlyB.below {base sz b0 : Nat} {w A B : World} (h : OnlyB base sz A B) (hb : Below b0 w A) (h1 : b0 ≤ base) (h2 : b0 ≤ sz) : Below b0 w B :=
  ⟨h.os.trans hb.os, h.tape.trans hb.tape, h.output.trans hb.output, Nat.le_trans hb.size h.size, fun k hk => (h.block k (by omega) (by omega)).trans (hb.block k hk)⟩
theorem StepsJ.only {w w1 : World} {n : Nat} {budget : Int} {pre : List (Int × Int)} {A B : World} {base : Nat} (hw : w.heap.size + 2 ≤ w1.heap.size) (hb : w1.heap.size + 3 ≤ base) (h : StepsJ w w1 n budget pre A) (ho : OnlyB base (w1.heap.size + 3) A B) : StepsJ w w1 n budget pre B := by
  obtain ⟨left, st, h⟩ := h
  exact ⟨left, st, h.go, (ho.block _ (by omega) (by omega)).trans h.row, (ho.block _ (by omega) (by omega)).trans h.hd, (ho.block _ (by omega) (by omega)).trans h.lf, (ho.block _ (by omega) (by omega)).trans h.r1, (ho.block _ (by omega) (by omega)).trans h.r2, h.len, h.l0, h.l1, h.sb, ho.below h.be (by omega) (by omega)⟩
theorem StepsX.only {w w1 : World} {n : Nat} {budget : Int} {pre : List (Int × Int)} {A B : World} {base : Nat} (hw : w.heap.size + 2 ≤ w1.heap.size) (hb : w1.heap.size + 3 ≤ base) (h : StepsX w w1 n budget pre A) (ho : OnlyB base (w1.heap.size + 3) A B) : StepsX w w1 n budget pre B :=
  ⟨h.go, (ho.block _ (by omega) (by omega)).trans h.r1, (ho.block _ (by omega) (by omega)).trans h.r2, ho.below h.be (by omega) (by omega)⟩

theorem AboveK.set2 {sz p q i j : Nat} (W : World) (hp : p < sz) (hq : q < sz) (u v : Value) : AboveK sz W ((W.setCell ⟨p, i, none⟩ u).setCell ⟨q, j, none⟩ v) :=
  ⟨fun b hb _ => (Below.heap_setCell _ ⟨q, j, none⟩ v b (by show b ≠ q; omega)).trans (Below.heap_setCell W ⟨p, i, none⟩ u b (by show b ≠ p; omega)), by rw [size_setCell, size_setCell]; exact Nat.le_refl _⟩
theorem StepsI.fail {w w1 W : World} {n : Nat} {budget left cnt len : Int} {pre : List (Int × Int)} {st : List Int} (hS : StepsI w w1 n budget pre W left st) (hlt : left < cnt) (hw : w.heap.size + 2 ≤ w1.heap.size) :
    AboveK (w1.heap.size + 3) W ((W.setCell ⟨w.heap.size, 0, none⟩ (.slice none 0 0)).setCell ⟨w.heap.size + 1, 0, none⟩ (.int .i64 9)) ∧ StepsX w w1 n budget (pre ++ [(len, cnt)]) ((W.setCell ⟨w.heap.size, 0, none⟩ (.slice none 0 0)).setCell ⟨w.heap.size + 1, 0, none⟩ (.int .i64 9)) := by
  refine ⟨AboveK.set2 W (by omega) (by omega) _ _, ?_, ?_, ?_, ?_⟩
  · rw [stepsGo_append, hS.go]; simp [stepsGo, hlt]
  · refine (Below.heap_setCell _ ⟨w.heap.size + 1, 0, none⟩ _ _ (show w.heap.size ≠ w.heap.size + 1 by omega)).trans ?_
    rw [heap_setCell_self hS.r1]; rfl
  · rw [heap_setCell_self ((Below.heap_setCell _ ⟨w.heap.size, 0, none⟩ _ _ (show w.heap.size + 1 ≠ w.heap.size by omega)).trans hS.r2)]; rfl
  · exact (hS.be.setCell (p := ⟨w.heap.size, 0, none⟩) (Nat.le_refl _) _).setCell (p := ⟨w.heap.size + 1, 0, none⟩) (Nat.le_succ _) _
theorem StepsI.step {w w1 W : World} {n : Nat} {budget left cnt y : Int} {pre : List (Int × Int)} {st : List Int} (hS : StepsI w w1 n budget pre W left st) {i : Nat} (hy : st[i]? = some y) (hle : cnt ≤ left) (h0 : 0 ≤ cnt) (hw : w.heap.size + 2 ≤ w1.heap.size) :
    AboveK (w1.heap.size + 3) W ((W.setCell ⟨w1.heap.size + 1 + 1, 0, none⟩ (.int .i64 (left - cnt))).setCell ⟨w1.heap.size, i, none⟩ (.int .i64 (y + cnt))) ∧ StepsJ w w1 n budget (pre ++ [((i : Int) + 1, cnt)]) ((W.setCell ⟨w1.heap.size + 1 + 1, 0, none⟩ (.int .i64 (left - cnt))).setCell ⟨w1.heap.size, i, none⟩ (.int .i64 (y + cnt))) := by
  have hyb := hS.sb y (List.mem_of_getElem? hy)
  have far : ∀ (b : Nat) (o : Obj), b ≠ w1.heap.size → b ≠ w1.heap.size + 1 + 1 → W.heap[b]? = some o → ((W.setCell ⟨w1.heap.size + 1 + 1, 0, none⟩ (.int .i64 (left - cnt))).setCell ⟨w1.heap.size, i, none⟩ (.int .i64 (y + cnt))).heap[b]? = some o := fun b o h1 h2 h3 =>
    (Below.heap_setCell _ ⟨w1.heap.size, i, none⟩ _ b h1).trans ((Below.heap_setCell W ⟨w1.heap.size + 1 + 1, 0, none⟩ _ b h2).trans h3)
  refine ⟨AboveK.set2 W (by omega) (by omega) _ _, left - cnt, st.set i (y + cnt), ?_, ?_, ?_, ?_, ?_, ?_, ?_, ?_, ?_, ?_, ?_⟩
  · rw [stepsGo_append, hS.go]
    simp [stepsGo, hy, Int.not_lt.2 hle]
  · exact (Row.far hS.row (p := ⟨w1.heap.size + 1 + 1, 0, none⟩) (show w1.heap.size ≠ w1.heap.size + 1 + 1 by omega) _).set i _
  · exact far _ _ (by omega) (by omega) hS.hd
  · refine (Below.heap_setCell _ ⟨w1.heap.size, i, none⟩ _ _ (show w1.heap.size + 2 ≠ w1.heap.size by omega)).trans ?_
    have := heap_setCell_self (i := 0) hS.lf (.int .i64 (left - cnt))
    rw [show w1.heap.size + 1 + 1 = w1.heap.size + 2 by omega, this]; rfl
  · exact far _ _ (by omega) (by omega) hS.r1
  · exact far _ _ (by omega) (by omega) hS.r2
  · rw [List.length_set]; exact hS.len
  · omega
  · have := hS.l1; omega
  · intro x hx
    rcases List.mem_or_eq_of_mem_set hx with h | h
    · have := hS.sb x h; omega
    · omega
  · exact (hS.be.setCell (p := ⟨w1.heap.size + 1 + 1, 0, none⟩) (show w.heap.size ≤ w1.heap.size + 1 + 1 by omega) _).setCell (p := ⟨w1.heap.size, i, none⟩) (show w.heap.size ≤ w1.heap.size by omega) _
set_option maxRecDepth 100000 in
set_option maxHeartbeats 4000000 in
theorem Steps_good {w0 w : World} {A : Option Addr} {c : Nat} {m : List (List Int)} {bound budget : Int} (h : Mat64 w0 A m) (h8 : m.length ≤ 8) (hc : m.length ≤ c) (hc2 : c ≤ 9223372036854775807) (hr : isRedB m = true) (ha : argsB bound budget = true) (hcr : crowdB m bound = false) (hf : FormOK m) [hx : Ext w0 w] :
    Calls Tryz.prog 26 #[.slice A m.length c, .int .i64 bound, .int .i64 budget] w (RetSteps w (stepsSpec m bound budget)) := by
  have hred := fun W (hxx : Ext w0 W) => IsReduced_any (w := W) h (by omega) hc hc2
  rw [hr] at hred
  have HR := Lib.hid hred
  have hnw := fun W (hxx : Ext w0 W) => newWalk_any (w := W) (c := c) (bound := bound) h hf.len1 h8 hf.all hf.fits hf.elim hf.rows
  have HW := Lib.hid hnw
  have HSP1 : Hid (∀ p, stepsOf m bound budget = some p → stepsSpec m bound budget = (p.2, 0)) := Lib.hid (fun p hp => by simp [stepsSpec, hr, ha, hcr, hp])
  have HSP2 : Hid (stepsOf m bound budget = none → stepsSpec m bound budget = ([], 9)) := Lib.hid (fun hp => by simp [stepsSpec, hr, ha, hcr, hp])
  obtain ⟨a1, a2, a3, a4⟩ : 0 ≤ bound ∧ bound ≤ 4611686018427387904 ∧ 0 ≤ budget ∧ budget ≤ 1000000 := by simpa [argsB] using ha
  have hcr' : ¬ (1 < m.length ∧ 1073741824 ≤ bound) := by simpa [crowdB] using hcr
  have HCR := Lib.hid hcr'
  have hl1 := hf.len1
  have HF := Lib.hid hf
  have hmk := run_make_any (P := Tryz.prog) Tryz.underlying47 infoInt_ (by omega) (m.length : Int) (by omega) (by omega)
  have hdd : ∀ k : Nat, (Fence.wide.depth.isSome = true → 1 ≤ k) := fun k h => by cases h
  have hcd : (decide ((1 : Int) < (m.length : Int)) && decide (1073741824 ≤ bound)) = false := by
    rcases Nat.lt_or_ge 1 m.length with h1 | h1
    · simp; omega
    · simp; omega
  have hcd2 : 1 < m.length → decide (1073741824 ≤ bound) = false := fun h1 => by simp; omega
  clear hred hnw hcr' hr ha hcr hf
  refine (callsIn_wide (n := 5)).1 ?_
  refine callsIn_of_wp_marks Tryz.func26 rfl trivial ?_ rfl
  simp only [Tryz.ntmps26, List.size_toArray, List.length_cons, List.length_nil, Nat.reduceAdd, Nat.reduceSub, Array.replicate_succ, Array.replicate_zero, List.push_toArray, List.append_toArray, List.nil_append, List.cons_append]
  rcases (show (decide ((1 : Int) < (m.length : Int)) = true ∧ decide (1073741824 ≤ bound) = false) ∨ (decide ((1 : Int) < (m.length : Int)) = false ∧ True) by
    rcases Nat.lt_or_ge 1 m.length with h1 | h1
    · exact .inl ⟨by simp; omega, hcd2 h1⟩
    · exact .inr ⟨by simp; omega, trivial⟩) with ⟨hcd5, hcd6⟩ | ⟨hcd5, -⟩
  all_goals
    clear hcd hcd2
    gi_wp2_with (first
      | (refine ⟨trivial, ?_⟩; gi_at_call 31; refine (callsIn_wide.2 (HR.out _ inferInstance)).mono ?_; rintro e w1 ⟨rfl, hs1⟩)
      | (refine ⟨trivial, ?_⟩; gi_at_call 46; refine (callsIn_wide.2 (HW.out _ inferInstance)).mono ?_; rintro e w3 ⟨rfl, ⟨mA, lA, mc, lc, hV⟩, hs3⟩))
    have hsz2 : (((w1.alloc (.cells (mkCells #[.int .i64 0] m.length) 3)).alloc (.cells #[.slice (some ⟨w1.heap.size, 0, none⟩) m.length m.length] 47)).alloc (.cells #[.int .i64 budget] 2)).heap.size = w1.heap.size + 3 := by simp
    have hw1 : w.heap.size + 2 ≤ w1.heap.size := by have := hs1.size; simpa using this
    have hw3 : w1.heap.size + 4 < w3.heap.size := by have := lt_of_heap hV.st; rw [hsz2] at this; omega
    obtain ⟨w2, hw2⟩ : ∃ w2, w2 = ((w1.alloc (.cells (mkCells #[.int .i64 0] m.length) 3)).alloc (.cells #[.slice (some ⟨w1.heap.size, 0, none⟩) m.length m.length] 47)).alloc (.cells #[.int .i64 budget] 2) := ⟨_, rfl⟩
    rw [← hw2] at hV hs3 hsz2
    refine wpIn_rangeX (gf := 47) (ptr := .pointer (some ⟨w1.heap.size + 1 + 1 + 1 + 1, 0, none⟩)) rfl (enters_of Tryz.func47 (by kernel_rfl) rfl) rfl (w1.heap.size + 3) w3.heap.size m.length (by omega) (Nat.le_refl _) (tailsY (minorsTo m m.length) (lamTo m m.length) m.length bound) ?seq (StepsJ w w1 m.length budget) (StepsX w w1 m.length budget) (fun pre A B hA hB => hA.only hw1 (by omega) hB) (fun pre A B hA hB => hA.only hw1 (by omega) hB) ?h0 ?ab ?done ?stop
    case seq =>
      intro l J Jx hJd hJs hY mm W hK hJ
      have := tails_any hV HF.out.num hl1 a1 a2 (fun h1 => by have := HCR.out; omega) l J Jx hJd (by rw [hsz2]; exact hJs) (by rw [hsz2]; exact hY) mm W (by rw [hsz2]; exact hK) hJ
      rw [hsz2] at this
      exact this
    case h0 =>
      have hx2 : Ext w1 w2 := by rw [hw2]; exact inferInstance
      have hx3 : Ext w2 w3 := hs3.ext
      have g1 : w2.heap[w1.heap.size]? = some (.cells (mkCells #[.int .i64 0] m.length) 3 (0, 0)) := by
        rw [hw2]; exact heap_of_ext (w := w1.alloc (.cells (mkCells #[.int .i64 0] m.length) 3)) inferInstance (heap_alloc_new w1 _)
      have g2 : w2.heap[w1.heap.size + 1]? = some (.cells #[.slice (some ⟨w1.heap.size, 0, none⟩) m.length m.length] 47 (0, 0)) := by
        rw [hw2]; refine heap_of_ext (w := (w1.alloc (.cells (mkCells #[.int .i64 0] m.length) 3)).alloc (.cells #[.slice (some ⟨w1.heap.size, 0, none⟩) m.length m.length] 47)) inferInstance ?_
        have := heap_alloc_new (w1.alloc (.cells (mkCells #[.int .i64 0] m.length) 3)) (.cells #[.slice (some ⟨w1.heap.size, 0, none⟩) m.length m.length] 47)
        simpa using this
      have g3 : w2.heap[w1.heap.size + 2]? = some (.cells #[.int .i64 budget] 2 (0, 0)) := by
        rw [hw2]
        have := heap_alloc_new ((w1.alloc (.cells (mkCells #[.int .i64 0] m.length) 3)).alloc (.cells #[.slice (some ⟨w1.heap.size, 0, none⟩) m.length m.length] 47)) (.cells #[.int .i64 budget] 2)
        simpa using this
      have g4 : w1.heap[w.heap.size]? = some (.cells #[.slice none 0 0] 47 (0, 0)) := heap_of_ext hs1.ext (heap_of_ext (w := w.alloc (.cells #[.slice none 0 0] 47)) inferInstance (heap_alloc_new w _))
      have g5 : w1.heap[w.heap.size + 1]? = some (.cells #[.int .i64 0] 24 (0, 0)) := by
        refine heap_of_ext hs1.ext ?_
        have := heap_alloc_new (w.alloc (.cells #[.slice none 0 0] 47)) (.cells #[.int .i64 0] 24)
        simpa using this
      have hxw : Ext w w3 := (Ext.trans (Ext.trans (inferInstance : Ext w ((w.alloc (.cells #[.slice none 0 0] 47)).alloc (.cells #[.int .i64 0] 24))) hs1.ext) hx2).trans hx3
      refine ⟨budget, List.replicate m.length 0, rfl, ?_, heap_of_ext hx3 g2, heap_of_ext hx3 g3, heap_of_ext (hx2.trans hx3) g4, heap_of_ext (hx2.trans hx3) g5, by simp, a3, Int.le_refl _, fun x hx => ?_, hxw.below⟩
      · rw [mkCells_row] at g1; exact heap_of_ext hx3 g1
      · have := List.eq_of_mem_replicate hx; omega
    case ab =>
      rintro l pre ⟨len, cnt⟩ W hI ⟨v1, v2, v3, v4⟩ hsz
      dsimp only at v1 v2 v3 v4
      obtain ⟨i, rfl⟩ : ∃ i : Nat, len = (i : Int) + 1 := ⟨(len - 1).toNat, by omega⟩
      gi_wp2
      refine ⟨trivial, fun W' hI' hs' => ?_⟩
      obtain ⟨left, st, hS⟩ := hI'
      have hsl := hS.len
      obtain ⟨y, hy1, hy2⟩ := hS.row.cell (i := i) (by omega)
      have hyb := hS.sb y (List.mem_of_getElem? hy1)
      have hf1 := hS.row.frozen i
      have e1 : W'.cell? ⟨w1.heap.size + 1, 0, none⟩ = some (.slice (some ⟨w1.heap.size, 0, none⟩) m.length m.length) := by simp [World.cell?, hS.hd]
      have e2 : W'.cell? ⟨w1.heap.size + 1 + 1, 0, none⟩ = some (.int .i64 left) := by have := hS.lf; simp [World.cell?, this]
      have e3 : W'.frozen? ⟨w1.heap.size + 1 + 1, 0, none⟩ = false := by have := hS.lf; simp [World.frozen?, this]
      have e4 : W'.cell? ⟨w.heap.size, 0, none⟩ = some (.slice none 0 0) := by simp [World.cell?, hS.r1]
      have e5 : W'.frozen? ⟨w.heap.size, 0, none⟩ = false := by simp [World.frozen?, hS.r1]
      have e6 : W'.cell? ⟨w.heap.size + 1, 0, none⟩ = some (.int .i64 0) := by simp [World.cell?, hS.r2]
      have e7 : W'.frozen? ⟨w.heap.size + 1, 0, none⟩ = false := by simp [World.frozen?, hS.r2]
      have hl0 := hS.l0
      have hl1' := hS.l1
      obtain ⟨hyb1, hyb2⟩ := hyb
      have HS := Lib.hid hS
      have HY := Lib.hid hy1
      clear hy1 hS hI
      by_cases hlt : left < cnt
      · gi_wp2_with fail
        exact HS.out.fail hlt hw1
      · gi_wp2_with fail
        exact HS.out.step HY.out (by omega) v3 hw1
    case done =>
      rintro D W ⟨left, st, hS⟩ hD hK
      have e1 : W.cell? ⟨w1.heap.size + 1, 0, none⟩ = some (.slice (some ⟨w1.heap.size, 0, none⟩) m.length m.length) := by simp [World.cell?, hS.hd]
      have e4 : W.cell? ⟨w.heap.size, 0, none⟩ = some (.slice none 0 0) := by simp [World.cell?, hS.r1]
      have e5 : W.frozen? ⟨w.heap.size, 0, none⟩ = false := by simp [World.frozen?, hS.r1]
      have e6 : W.cell? ⟨w.heap.size + 1, 0, none⟩ = some (.int .i64 0) := by simp [World.cell?, hS.r2]
      have e7 : W.frozen? ⟨w.heap.size + 1, 0, none⟩ = false := by simp [World.frozen?, hS.r2]
      have HS := Lib.hid hS
      have HK := Lib.hid hK
      clear hS hK
      gi_wp2_with fail
      obtain ⟨Wr, hWr⟩ : ∃ Wr, Wr = ((W.setCell ⟨w.heap.size, 0, none⟩ (.slice (some ⟨w1.heap.size, 0, none⟩) m.length m.length)).setCell ⟨w.heap.size + 1, 0, none⟩ (.int .i64 0)) := ⟨_, rfl⟩
      rw [← hWr]
      have k1 : Wr.heap[w.heap.size]? = some (.cells #[.slice (some ⟨w1.heap.size, 0, none⟩) m.length m.length] 47 (0, 0)) := by
        rw [hWr]
        refine (Below.heap_setCell _ ⟨w.heap.size + 1, 0, none⟩ _ _ (show w.heap.size ≠ w.heap.size + 1 by omega)).trans ?_
        rw [heap_setCell_self HS.out.r1]; rfl
      have k2 : Wr.heap[w.heap.size + 1]? = some (.cells #[.int .i64 0] 24 (0, 0)) := by
        rw [hWr, heap_setCell_self ((Below.heap_setCell _ ⟨w.heap.size, 0, none⟩ _ _ (show w.heap.size + 1 ≠ w.heap.size by omega)).trans HS.out.r2)]; rfl
      have k3 : Wr.heap[D]? = some (.deferred (some [])) := by
        rw [hWr]
        exact (Below.heap_setCell _ ⟨w.heap.size + 1, 0, none⟩ _ _ (show D ≠ w.heap.size + 1 by omega)).trans ((Below.heap_setCell _ ⟨w.heap.size, 0, none⟩ _ _ (show D ≠ w.heap.size by omega)).trans HK.out)
      have k4 : Row Wr w1.heap.size 3 .i64 st := by
        rw [hWr]
        exact (HS.out.row.far (p := ⟨w.heap.size, 0, none⟩) (show w1.heap.size ≠ w.heap.size by omega) _).far (p := ⟨w.heap.size + 1, 0, none⟩) (show w1.heap.size ≠ w.heap.size + 1 by omega) _
      have k5 : Below w.heap.size w Wr := by
        rw [hWr]
        exact (HS.out.be.setCell (p := ⟨w.heap.size, 0, none⟩) (Nat.le_refl _) _).setCell (p := ⟨w.heap.size + 1, 0, none⟩) (Nat.le_succ _) _
      have hoP : OnlyB (w1.heap.size + 3) (w1.heap.size + 3) Wr (Wr.putObj D (.deferred none)) := OnlyB.putObj (by omega) _
      have p1 := (hoP.block _ (by omega) (by omega)).trans k1
      have p2 := (hoP.block _ (by omega) (by omega)).trans k2
      have p4 : Row (Wr.putObj D (.deferred none)) w1.heap.size 3 .i64 st := (hoP.block _ (by omega) (by omega)).trans k4
      have q1 : (Wr.putObj D (.deferred none)).cell? ⟨w.heap.size, 0, none⟩ = some (.slice (some ⟨w1.heap.size, 0, none⟩) m.length m.length) := by simp [World.cell?, p1]
      have q2 : (Wr.putObj D (.deferred none)).cell? ⟨w.heap.size + 1, 0, none⟩ = some (.int .i64 0) := by simp [World.cell?, p2]
      refine ⟨by simp, .inl ⟨_, _, rfl, run_takeDeferred k3, ?_⟩⟩
      have hsp := HSP1.out (left, st) HS.out.go
      refine ⟨.tuple #[.slice (some ⟨w1.heap.size, 0, none⟩) m.length m.length, .int .i64 0], by simp [results, Tryz.results26, go_sem, q1, q2], ?_⟩
      rw [hsp]
      have hsl := HS.out.len
      refine ⟨_, m.length, by rw [hsl], p4.ints, by show st.length ≤ m.length; omega, by omega, ⟨hoP.below k5 (by omega) (by omega)⟩⟩
    case stop =>
      rintro D q W hq hX hD hK
      gi_wp2_with fail
      have hoP : OnlyB (w1.heap.size + 3) (w1.heap.size + 3) W (W.putObj D (.deferred none)) := OnlyB.putObj (by omega) _
      have p1 := (hoP.block _ (by omega) (by omega)).trans hX.r1
      have p2 := (hoP.block _ (by omega) (by omega)).trans hX.r2
      have q1 : (W.putObj D (.deferred none)).cell? ⟨w.heap.size, 0, none⟩ = some (.slice none 0 0) := by simp [World.cell?, p1]
      have q2 : (W.putObj D (.deferred none)).cell? ⟨w.heap.size + 1, 0, none⟩ = some (.int .i64 9) := by simp [World.cell?, p2]
      refine ⟨by simp, .inl ⟨_, _, rfl, run_takeDeferred hK, ?_⟩⟩
      have hsp := HSP2.out (by
        obtain ⟨t, ht⟩ := hq
        unfold stepsOf
        rw [← ht, stepsGo_append, hX.go]; rfl)
      refine ⟨.tuple #[.slice none 0 0, .int .i64 9], by simp [results, Tryz.results26, go_sem, q1, q2], ?_⟩
      exact RetSteps.err hsp ⟨hoP.below hX.be (by omega) (by omega)⟩
theorem isRedB_len {m : List (List Int)} (h : isRedB m = true) : 1 ≤ m.length ∧ m.length ≤ 8 := by
  have h1 : isSmallB m = true := by
    cases hs : isSmallB m
    · rw [isRedB_small hs] at h; cases h
    · rfl
  have := of_decide_eq_true h1
  exact ⟨this.1, this.2.1⟩
theorem Steps_any {w0 w : World} {A : Option Addr} {c : Nat} {m : List (List Int)} {bound budget : Int} (h : Mat64 w0 A m) (hlen : m.length ≤ 1099511627776) (hc : m.length ≤ c) (hc2 : c ≤ 9223372036854775807) (hf : isRedB m = true → FormOK m) [hx : Ext w0 w] :
    Calls Tryz.prog 26 #[.slice A m.length c, .int .i64 bound, .int .i64 budget] w (RetSteps w (stepsSpec m bound budget)) := by
  cases hr : isRedB m
  · exact Steps_bad h hlen hc hc2 (.inl hr)
  · cases ha : argsB bound budget
    · exact Steps_bad h hlen hc hc2 (.inr (.inl ha))
    · cases hcr : crowdB m bound
      · exact Steps_good h (isRedB_len hr).2 hc hc2 hr ha hcr (hf hr)
      · exact Steps_bad h hlen hc hc2 (.inr (.inr hcr))
end Go.Proofs.YtaaldapmkhamlaaGreat

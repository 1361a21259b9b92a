/-
  The contract of newWalk of the package schur: the walk lies in new blocks.
-/
import Derived.Test.YtaaldapmkhamlaaGreatElim
import Derived.Test.YtaaldapmkhamlaaGreatVec2
namespace Go.Proofs.YtaaldapmkhamlaaGreat
open Go.RowKit
theorem Oth.grow {T e : TypeId} {w w' w2 : World} (h : Oth T w w') (hg : Grow w.heap.size e w' w2) : Oth T w w2 := fun b cs e' fr hn hb => (hg.below.block b (lt_of_heap hb)).trans (h b cs e' fr hn hb)
/-- The first row of stage k, behind its first entry. -/
def lamRow (m : List (List Int)) (k : Nat) : List Int := (List.range (m.length - k - 1)).map fun j => ent (stAt m k).2 0 (j + 1)
def lamTo (m : List (List Int)) (k : Nat) : List (List Int) := (List.range k).map (lamRow m)
theorem lamTo_succ (m : List (List Int)) (k : Nat) : lamTo m (k + 1) = lamTo m k ++ [lamRow m k] := by simp [lamTo, List.range_succ]
/-- The first rows of the stages fit in 64 bits. -/
def Rows64 (m : List (List Int)) : Prop := ∀ k, k < m.length → ∀ j, j < m.length - k → -9223372036854775808 ≤ ent (stAt m k).2 0 j ∧ ent (stAt m k).2 0 j ≤ 9223372036854775807
theorem minors64 {m : List (List Int)} (h : Rows64 m) {i : Nat} {z : Int} (hz : (minorsTo m m.length)[i]? = some z) : -9223372036854775808 ≤ z ∧ z ≤ 9223372036854775807 := by
  cases i with
  | zero => simp [minorsTo] at hz; omega
  | succ i =>
    rw [minorsTo, List.getElem?_cons_succ, List.getElem?_map] at hz
    rcases Nat.lt_or_ge i m.length with hi | hi
    · rw [List.getElem?_range hi] at hz
      simp at hz
      subst hz
      exact h i hi 0 (by omega)
    · rw [List.getElem?_eq_none (by simpa using hi)] at hz
      cases hz
/-- A box of four cells. -/
theorem box_cells4 {w : World} {b : Nat} {x0 x1 x2 x3 : Value} {T : TypeId} (h : w.heap[b]? = some (.cells #[x0, x1, x2, x3] T (0, 0))) : w.cell? ⟨b, 0, none⟩ = some x0 ∧ w.cell? ⟨b, 1, none⟩ = some x1 ∧ w.cell? ⟨b, 2, none⟩ = some x2 ∧ w.cell? ⟨b, 3, none⟩ = some x3 ∧ (∀ i, w.frozen? ⟨b, i, none⟩ = false) ∧ b < w.heap.size :=
  ⟨by simp [World.cell?, h], by simp [World.cell?, h], by simp [World.cell?, h], by simp [World.cell?, h], fun i => by simp [World.frozen?, h], lt_of_heap h⟩
/-- A slice whose block lies at lo or beyond. -/
def ArrX (lo : Nat) (w : World) (A : Option Addr) (e : TypeId) (vs : List Value) : Prop :=
  0 < vs.length → ∃ (b o : Nat) (cs : Array Value) (fr : Nat × Nat), A = some ⟨b, o, none⟩ ∧ lo ≤ b ∧ w.heap[b]? = some (.cells cs e fr) ∧ ∀ (j : Nat) (u : Value), vs[j]? = some u → cs[o + j]? = some u
section
variable {lo : Nat} {w w' : World} {A : Option Addr} {e e' T : TypeId} {vs : List Value}
theorem ArrX.keep (h : ArrX lo w A e vs) (hk : ∀ (b : Nat) (cs : Array Value) (fr : Nat × Nat), lo ≤ b → w.heap[b]? = some (Obj.cells cs e fr) → w'.heap[b]? = w.heap[b]?) : ArrX lo w' A e vs := fun h0 => by
  obtain ⟨b, o, cs, fr, rfl, hl, hb, hc⟩ := h h0
  exact ⟨b, o, cs, fr, rfl, hl, (hk _ _ _ hl hb).trans hb, hc⟩
theorem ArrX.ext (h : ArrX lo w A e vs) (hx : Ext w w') : ArrX lo w' A e vs := h.keep fun _ _ _ _ hb => hx.below.block _ (lt_of_heap hb)
theorem ArrX.oth (h : ArrX lo w A e vs) (ho : Oth T w w') (hn : e ≠ T) : ArrX lo w' A e vs := h.keep fun b cs fr _ hb => (ho b cs e fr hn hb).trans hb.symm
theorem ArrX.arr (h : ArrX lo w A e vs) : Arr w A e vs := fun h0 => by
  obtain ⟨b, o, cs, fr, rfl, _, hb, hc⟩ := h h0
  exact ⟨b, o, cs, fr, rfl, hb, hc⟩
theorem ArrX.at_ (h : ArrX lo w A e vs) {i : Nat} {u : Value} (hu : vs[i]? = some u) : ∃ b o, A = some ⟨b, o, none⟩ ∧ w.cell? ⟨b, o + i, none⟩ = some u ∧ lo ≤ b ∧ b < w.heap.size := by
  have hl : 0 < vs.length := by
    rcases Nat.eq_zero_or_pos vs.length with h0 | h0
    · have := List.eq_nil_of_length_eq_zero h0; subst this; simp at hu
    · exact h0
  obtain ⟨b, o, cs, fr, rfl, hlo, hb, hc⟩ := h hl
  exact ⟨b, o, rfl, by rw [cell_of_row w b (o + i) cs e fr hb]; exact hc i u hu, hlo, lt_of_heap hb⟩
theorem Own.arrX {base size n c : Nat} {xs : List Value} (h : Own w base e size A n c xs) : ArrX base w A e xs := fun h0 => by
  rcases h.2 with ⟨hv, hn⟩ | ⟨g, cap, cur, hv, h1, h2, _, _, _, h4⟩
  · have := h.1; rw [hn] at this; omega
  · injection hv with hA
    subst hA
    refine ⟨g, 0, cur, (0, 0), rfl, h1, h2, fun j u hu => ?_⟩
    rw [← h4, List.getElem?_take] at hu
    split at hu
    · simpa using hu
    · cases hu
theorem ArrX.lower (h : ArrX lo w A e vs) {lo' : Nat} (hl : lo' ≤ lo) : ArrX lo' w A e vs := fun h0 => by
  obtain ⟨b, o, cs, fr, rfl, h1, hb, hc⟩ := h h0
  exact ⟨b, o, cs, fr, rfl, by omega, hb, hc⟩
end
/-- Rows of integers whose blocks lie at lo or beyond. -/
def Mat64X (lo : Nat) (w : World) (A : Option Addr) (L : List (List Int)) : Prop :=
  ∃ vs : List Value, vs.length = L.length ∧ ArrX lo w A 22 vs ∧ ∀ (i : Nat) (r : List Int), L[i]? = some r → ∃ B c, vs[i]? = some (.slice B r.length c) ∧ ArrX lo w B 2 (r.map (Value.int .i64)) ∧ r.length ≤ c ∧ c ≤ 9223372036854775807
/-- The walk lies in two new blocks (its coordinates, its struct) and rows behind them. -/
structure WalkV (w w' : World) (bound : Int) (D : List Int) (L : List (List Int)) (n : Nat) (mA lA : Option Addr) (mc lc : Nat) : Prop where
  st : w'.heap[w.heap.size + 1]? = some (.cells #[.int .i64 bound, .slice mA D.length mc, .slice lA L.length lc, .slice (some ⟨w.heap.size, 0, none⟩) n n] 150 (0, 0))
  xs : Row w' w.heap.size 2 .i64 (List.replicate n 0)
  mi : ArrX (w.heap.size + 2) w' mA 2 (D.map (Value.int .i64))
  la : Mat64X (w.heap.size + 2) w' lA L
  mc0 : D.length ≤ mc
  mc1 : mc ≤ 9223372036854775807
  lc0 : L.length ≤ lc
  lc1 : lc ≤ 9223372036854775807
def RetWalk (w : World) (bound : Int) (D : List Int) (L : List (List Int)) (n : Nat) (e : Ending) (w' : World) : Prop := e = .returned (.pointer (some ⟨w.heap.size + 1, 0, none⟩)) ∧ (∃ mA lA mc lc, WalkV w w' bound D L n mA lA mc lc) ∧ Step w w'
theorem take_map_snoc (D : List Int) (k : Nat) (z : Int) (h : D[k]? = some z) : (D.take (k + 1)).map (Value.int .i64) = (D.take k).map (Value.int .i64) ++ [.int .i64 z] := by
  rw [List.take_add_one, h]; simp
theorem box_set4_1 {w : World} {b : Nat} {x0 x1 x2 x3 u : Value} {T : TypeId} (h : w.heap[b]? = some (.cells #[x0, x1, x2, x3] T (0, 0))) : (w.setCell ⟨b, 1, none⟩ u).heap[b]? = some (.cells #[x0, u, x2, x3] T (0, 0)) := by
  rw [heap_setCell_self h]; rfl
theorem box_set4_2 {w : World} {b : Nat} {x0 x1 x2 x3 u : Value} {T : TypeId} (h : w.heap[b]? = some (.cells #[x0, x1, x2, x3] T (0, 0))) : (w.setCell ⟨b, 2, none⟩ u).heap[b]? = some (.cells #[x0, x1, u, x3] T (0, 0)) := by
  rw [heap_setCell_self h]; rfl
set_option maxRecDepth 10000 in
set_option maxHeartbeats 2000000 in
theorem newWalk_any {w0 w : World} {A : Option Addr} {c : Nat} {m : List (List Int)} {bound : Int} (h : Mat64 w0 A m) (h1 : 1 ≤ m.length) (h8 : m.length ≤ 8) (hn : AllLen m m.length) (hF : Fits64 m) (hok : ElimOK m) (h64 : Rows64 m) [hx : Ext w0 w] :
    Calls Tryz.prog 46 #[.slice A m.length c, .int .i64 bound] w (RetWalk w bound (minorsTo m m.length) (lamTo m m.length) m.length) := by
  have hel := fun W (hxx : Ext w0 W) => eliminate_any (c := c) (w := W) h h1 h8 hn hF hok
  have HEL := Lib.hid hel
  have hmk := run_make_any (P := Tryz.prog) Tryz.underlying22 infoI64 (by omega) (m.length : Int) (by omega) (by omega)
  have HN := Lib.hid hn
  have H64 := Lib.hid h64
  clear hel hn hF hok h64
  go_enter Tryz.func46, Tryz.ntmps46
  go_wp2_with (go_at_call 83; refine (HEL.out _ inferInstance).mono ?_; rintro e w1 ⟨A1, c1, B1, d1, rfl, hS, hM, k1, k2, k3, k4, hs1⟩)
  have hst0 : (w1.alloc (.cells #[.slice A1 m.length c1, .slice B1 (m.length + 1) d1] 154)).heap[w.heap.size + 1]? = some (.cells #[.int .i64 bound, .slice none 0 0, .slice none 0 0, .slice (some ⟨w.heap.size, 0, none⟩) m.length m.length] 150 (0, 0)) := by
    refine heap_of_ext (Ext.trans hs1.ext inferInstance) ?_
    have := heap_alloc_new (w.alloc (.cells (mkCells #[.int .i64 0] m.length) 2)) (.cells #[.int .i64 bound, .slice none 0 0, .slice none 0 0, .slice (some ⟨w.heap.size, 0, none⟩) m.length m.length] 150)
    simpa using this
  have hxr0 : Row (w1.alloc (.cells #[.slice A1 m.length c1, .slice B1 (m.length + 1) d1] 154)) w.heap.size 2 .i64 (List.replicate m.length 0) := by
    have h2 := Row.made w m.length .i64 2
    rw [← mkCells_row] at h2
    exact (h2.ext inferInstance).ext (Ext.trans hs1.ext inferInstance)
  have hea : (w1.alloc (.cells #[.slice A1 m.length c1, .slice B1 (m.length + 1) d1] 154)).heap[w1.heap.size]? = some (.cells #[.slice A1 m.length c1, .slice B1 (m.length + 1) d1] 154 (0, 0)) := heap_alloc_new _ _
  have hxa : Ext w (w1.alloc (.cells #[.slice A1 m.length c1, .slice B1 (m.length + 1) d1] 154)) := Ext.trans (Ext.trans inferInstance hs1.ext) inferInstance
  have hSa := hS.ext (inferInstance : Ext w1 (w1.alloc (.cells #[.slice A1 m.length c1, .slice B1 (m.length + 1) d1] 154)))
  have hMa := hM.ext (inferInstance : Ext w1 (w1.alloc (.cells #[.slice A1 m.length c1, .slice B1 (m.length + 1) d1] 154)))
  have hsz1 : w.heap.size + 2 ≤ w1.heap.size := by have := hs1.size; simpa using this
  generalize hwa : w1.alloc (.cells #[.slice A1 m.length c1, .slice B1 (m.length + 1) d1] 154) = wa at *
  clear hwa hS hM hs1 HEL hmk
  have HST0 := Lib.hid hst0
  have HXR0 := Lib.hid hxr0
  have HEA := Lib.hid hea
  have hDl : (minorsTo m m.length).length = m.length + 1 := minorsTo_length _ _
  obtain ⟨D, hD⟩ : ∃ D, D = minorsTo m m.length := ⟨_, rfl⟩
  rw [← hD] at hMa hDl
  have HD := Lib.hid hD
  have HDL := Lib.hid hDl
  have HD64 : Hid (∀ i z, D[i]? = some z → -9223372036854775808 ≤ z ∧ z ≤ 9223372036854775807) := Lib.hid (fun i z hz => minors64 H64.out (by rw [← hD]; exact hz))
  have hwsz : w1.heap.size < wa.heap.size := lt_of_heap hea
  clear hst0 hxr0 hea hD hDl
  go_loopw [8, 25] (fun _ i wr => ∃ (k : Nat) (B : Option Addr) (d : Nat), k ≤ m.length + 1 ∧ i = .int .i64 k ∧ wr.heap[w.heap.size + 1]? = some (.cells #[.int .i64 bound, .slice B k d, .slice none 0 0, .slice (some ⟨w.heap.size, 0, none⟩) m.length m.length] 150 (0, 0)) ∧ Own wr wa.heap.size 2 1 B k d ((D.take k).map (Value.int .i64)) ∧ Oth 150 wa wr ∧ Ext w wr ∧ wa.heap.size ≤ wr.heap.size) (fun _ i _ => m.length + 1 - (intOf i).toNat)
  case atStart => exact ⟨0, none, 0, by omega, rfl, HST0.out, Own.nil _ _ _ _, Oth.refl _ _, hxa, Nat.le_refl _⟩
  case round =>
    obtain ⟨k, B, d, hk, rfl, hst, hown, hoth, hxr, hwr⟩ := hrel
    obtain ⟨s1, s2, s3, s4, s5, s6⟩ := box_cells4 hst
    have s7 := s5 1
    have s8 := s5 2
    clear s5
    have HST := Lib.hid hst
    clear hst
    by_cases hlt : k < m.length + 1
    · obtain ⟨b, o, g, B', n', c', rfl, e1, e2, e3, e4⟩ := (hMa.oth hoth (by decide) (by decide)).at_ (i := k) (by have := HDL.out; omega)
      obtain ⟨z, hz⟩ : ∃ z, D[k]? = some z := ⟨_, List.getElem?_eq_getElem (by have := HDL.out; omega)⟩
      have hzz : D[k]'(by have := HDL.out; omega) = z := (List.getElem?_eq_some_iff.1 hz).2
      rw [hzz] at e3
      have hb64 := HD64.out k z hz
      have HZ := Lib.hid hz
      clear hz hzz
      have oS : Old (w.heap.size + 1) wr := ⟨s6⟩
      go_wp2
      go_region_law (first
        | ((refine step_app _ rfl (.tmp 33) (.tmp 36) 22 rfl wa.heap.size 2 (.int .i64 0) 1 8 Tryz.underlying22 infoI64 rfl (by decide) (by decide) B k d _ (by simp [Act.eval]) (hown.ext inferInstance) (some ⟨w3.heap.size, 0, none⟩) 1 1 [.int .i64 z] (by simp [Act.eval]) (Arr.new w3 2 #[.int .i64 z]) rfl (by simp [Value.oneCell']) (by omega) (by have := hs3.size; simp at this ⊢; omega) ?_); intro A4 d4 w4 hown4 hg4; have hb4 := hg4.heap (heap_of_ext (inferInstance : Ext wr (w3.alloc (Obj.cells #[Value.int .i64 z] 2))) HST.out) (by decide); obtain ⟨q1, q2, q3, q4, q5, q6⟩ := box_cells4 hb4; have q7 := q5 1; have HB4 := Lib.hid hb4; clear hb4 q5)
        | (go_simp; go_at_call 84; refine (small_any e3 hb64.1 hb64.2).mono ?_; rintro e w3 ⟨rfl, hs3⟩))
      all_goals
        go_wp2
        refine ⟨⟨k + 1, A4, d4, by omega, by go_num, box_set4_1 HB4.out, ?_, ?_, ?_, ?_⟩, by simp [intOf] <;> omega⟩
        · rw [take_map_snoc D k z HZ.out]
          exact hown4.far (p := ⟨w.heap.size + 1, 1, none⟩) HB4.out (by decide) _
        · exact ((hoth.trans (Oth.of_ext (inferInstance : Ext wr (w3.alloc (Obj.cells #[Value.int .i64 z] 2))))).grow hg4).trans (Oth.set (p := ⟨w.heap.size + 1, 1, none⟩) HB4.out _)
        · exact (hg4.ext inferInstance hxa.size).setCell (p := ⟨w.heap.size + 1, 1, none⟩) (Nat.le_succ _) _
        · rw [size_setCell]
          have h1 := hg4.below.size
          have h2 := hs3.size
          simp at h1 h2
          omega
    · obtain ⟨kk, rfl⟩ : ∃ kk, kk = k := ⟨_, rfl⟩
      have hDt : D.take kk = D := List.take_of_length_le (by rw [HDL.out]; omega)
      have HKK : Hid (kk = m.length + 1) := Lib.hid (by omega)
      have hkk9 : kk ≤ 9 := by omega
      have hkd : decide ((kk : Int) < (m.length : Int) + 1) = false := by simp; omega
      clear hlt hk
      rw [hDt] at hown
      clear hDt
      have hea := hoth _ _ _ _ (by decide) HEA.out
      obtain ⟨t1, t2, -, -, t5⟩ := box_cells2 hea
      clear hea
      obtain ⟨wb, rfl⟩ : ∃ wb : World, wb = wr := ⟨_, rfl⟩
      go_wp2
      go_loopw [10, 11, 13, 44] (fun _ _ _ i wr => ∃ (k : Nat) (Lh : Option Addr) (lc : Nat) (vs : List Value), k ≤ m.length ∧ i = .int .i64 k ∧ wr.heap[w.heap.size + 1]? = some (.cells #[.int .i64 bound, .slice B kk d, .slice Lh k lc, .slice (some ⟨w.heap.size, 0, none⟩) m.length m.length] 150 (0, 0)) ∧ Own wr wa.heap.size 2 1 B kk d (D.map (Value.int .i64)) ∧ Own wr wa.heap.size 22 1 Lh k lc vs ∧ Hid (∀ i, i < k → ∃ B c, vs[i]? = some (.slice B (lamRow m i).length c) ∧ ArrX wa.heap.size wr B 2 ((lamRow m i).map (Value.int .i64)) ∧ (lamRow m i).length ≤ c ∧ c ≤ 9223372036854775807) ∧ Oth 150 wa wr ∧ Ext w wr ∧ wa.heap.size ≤ wr.heap.size) (fun _ _ _ i _ => m.length - (intOf i).toNat)
      case atStart => exact ⟨0, none, 0, [], by omega, rfl, HST.out, hown, Own.nil _ _ _ _, Lib.hid (fun i hi => absurd hi (by omega)), hoth, hxr, hwr⟩
      case round =>
        clear hown hoth s1 s2 s3 s4 s6 s7 s8 HST t1 t2 t5 hwr hxr
        obtain ⟨k, Lh, lc, vs, hk, rfl, hst, hown, hownL, HV, hoth, hxr, hwr⟩ := hrel
        obtain ⟨s1, s2, s3, s4, s5, s6⟩ := box_cells4 hst
        have s8 := s5 2
        clear s5
        have HST := Lib.hid hst
        clear hst
        by_cases hlt : k < m.length
        · obtain ⟨b', o', b1, o1, c1', b2, o2, c2', rfl, l1, l2, l3, l4, L5, L6⟩ := StV.rowAt (hSa.oth hoth (by decide) (by decide) (by decide) (by decide)) HN.out hlt
          obtain ⟨wi, rfl⟩ : ∃ wi : World, wi = wr := ⟨_, rfl⟩
          obtain ⟨p1, p2, p3, p4, p5⟩ := L5 wi inferInstance
          obtain ⟨r, hr⟩ : ∃ r, m.length - k = r + 1 := ⟨m.length - k - 1, by omega⟩
          rw [hr] at p1 p2 l1 l3
          have HR := Lib.hid hr
          have HL6 := Lib.hid L6
          have hlr : Hid ((lamRow m k).length = r) := Lib.hid (by simp [lamRow]; omega)
          have hlg : Hid (∀ q, q < r → (lamRow m k)[q]? = some (ent (stAt m k).2 0 (q + 1))) := Lib.hid (fun q hq => by rw [lamRow, List.getElem?_map, List.getElem?_range (by omega)]; rfl)
          obtain ⟨R, hRR⟩ : ∃ R, R = lamRow m k := ⟨_, rfl⟩
          rw [← hRR] at hlr hlg
          have HRR := Lib.hid hRR
          have hr8 : r ≤ 8 := by omega
          clear L5 L6 hr hRR
          by_cases hc1 : c2' = 1
          all_goals
            go_wp2
            go_loopw [11, 13, 53] (fun s _ i wr => ∃ (q : Nat) (B : Option Addr) (c : Nat), q ≤ r ∧ i = .int .i64 q ∧ s = .slice B q c ∧ Own wr wi.heap.size 2 1 B q c ((R.take q).map (Value.int .i64)) ∧ Ext wi wr) (fun _ _ i _ => r - (intOf i).toNat)
            case atStart => exact ⟨0, none, 0, by omega, rfl, rfl, Own.nil _ _ _ _, inferInstance⟩
            case round =>
              obtain ⟨q, B0, c0, hq, rfl, rfl, hown0, hxq⟩ := hrel
              by_cases hlt' : q < r
              · try (exfalso; omega)
                all_goals
                  obtain ⟨g, B', n', c', e3, E4⟩ := HL6.out (q + 1) (by have := HR.out; omega)
                  obtain ⟨e1, e2⟩ := E4 wr hxq
                  have hb64 := H64.out k hlt (q + 1) (by have := HR.out; omega)
                  have hg1 := hlg.out q hlt'
                  obtain ⟨z, hz⟩ : ∃ z, z = ent (stAt m k).2 0 (q + 1) := ⟨_, rfl⟩
                  rw [← hz] at hb64 hg1 e3
                  rw [show o2 + (q + 1) * 2 = o2 + 2 + q * 2 by omega] at e1 e2
                  have HZ := Lib.hid hg1
                  have p6 : b2 < wr.heap.size := Nat.lt_of_lt_of_le p5 hxq.size
                  clear hz hg1 E4
                  go_wp2_with (first
                    | (at_builtin; refine wpList_app _ rfl _ _ 22 rfl wi.heap.size 2 (.int .i64 0) 1 8 Tryz.underlying22 infoI64 rfl (by omega) (by omega) B0 q c0 _ rfl (hown0.ext inferInstance) _ 1 1 [.int .i64 z] rfl (Arr.new w3 2 #[.int .i64 z]) (by simp) (by simp [Value.oneCell']) (by omega) (by have := hxq.size; have := hs3.size; simp at this ⊢; omega) ?_; intro A4 d4 w4 hown4 hg4)
                    | (go_at_call 84; refine (small_any e3 hb64.1 hb64.2).mono ?_; rintro e w3 ⟨rfl, hs3⟩))
                  refine ⟨⟨q + 1, A4, d4, by omega, by go_num, rfl, ?_, ?_⟩, by simp [intOf] <;> omega⟩
                  · rw [take_map_snoc R q z HZ.out]; exact hown4
                  · exact hg4.ext inferInstance (Nat.le_refl _)
              · obtain rfl : q = r := by omega
                clear hlt'
                have hRt : R.take q = R := List.take_of_length_le (by rw [hlr.out]; omega)
                rw [hRt] at hown0
                clear hRt
                obtain ⟨u1, u2, u3, u4, u5, u6⟩ := box_cells4 (heap_of_ext hxq HST.out)
                have u7 := u5 2
                have oS : Old (w.heap.size + 1) wr := ⟨u6⟩
                clear u5
                go_wp2_with (at_builtin; refine wpList_app _ rfl _ _ 23 rfl wa.heap.size 22 (.slice none 0 0) 1 24 Tryz.underlying23 infoSlI64 rfl (by omega) (by omega) Lh k lc vs rfl (hownL.ext inferInstance) _ 1 1 [.slice B0 q c0] rfl (Arr.new wr 22 #[.slice B0 q c0]) (by simp) (by simp [Value.oneCell']) (by omega) (by have := hxq.size; simp at this ⊢; omega) ?_; intro A4 d4 w4 hown4 hg4; have hb4 := hg4.heap (heap_of_ext (inferInstance : Ext wi (wr.alloc (Obj.cells #[Value.slice B0 q c0] 22))) HST.out) (by decide); obtain ⟨q1, q2, q3, q4, q5, q6⟩ := box_cells4 hb4; have q7 := q5 2; have HB4 := Lib.hid hb4; clear hb4 q5)
                have hoT := Oth.set (p := ⟨w.heap.size + 1, 2, none⟩) HB4.out (.slice A4 (k + 1) d4)
                refine ⟨⟨k + 1, A4, d4, vs ++ [.slice B0 q c0], by omega, by go_num, box_set4_2 HB4.out, ?_, ?_, Lib.hid (fun i hi => ?_), ?_, ?_, ?_⟩, by simp [intOf] <;> omega⟩
                · exact ((hown.ext (Ext.trans hxq inferInstance)).grow hg4 (by decide)).oth hoT (by decide)
                · exact hown4.oth hoT (by decide)
                · have hkl : vs.length = k := by have := hownL.len; omega
                  rcases Nat.lt_or_ge i k with hi' | hi'
                  · obtain ⟨B5, c5, y1, y2, y3⟩ := HV.out i hi'
                    exact ⟨B5, c5, by rw [List.getElem?_append_left (by omega)]; exact y1, ((y2.ext (Ext.trans hxq inferInstance)).oth (Oth.of_grow hg4) (by decide)).oth hoT (by decide), y3⟩
                  · obtain rfl : i = k := by omega
                    rw [← HRR.out, hlr.out]
                    have hcap := hown0.cap
                    exact ⟨B0, c0, by rw [List.getElem?_append_right (by omega), hkl]; simp, (((hown0.arrX.lower hwr).ext inferInstance).oth (Oth.of_grow hg4) (by decide)).oth hoT (by decide), hcap.1, hcap.2⟩
                · exact ((hoth.trans (Oth.of_ext (Ext.trans hxq inferInstance))).grow hg4).trans hoT
                · exact (hg4.ext (Ext.trans hxr (Ext.trans hxq inferInstance)) hxa.size).setCell (p := ⟨w.heap.size + 1, 2, none⟩) (Nat.le_succ _) _
                · rw [size_setCell]
                  have h1 := hg4.below.size
                  have h2 := hxq.size
                  simp at h1
                  omega
        · obtain rfl : k = m.length := by omega
          clear hlt
          go_wp2
          go_ret
          have hLl : (lamTo m m.length).length = m.length := by simp [lamTo]
          have hcap := hown.cap
          have hcapL := hownL.cap
          have hDk : D.length = kk := by rw [HDL.out, HKK.out]
          rw [← HD.out]
          refine ⟨rfl, ⟨B, Lh, d, lc, { st := ?_, xs := ?_, mi := ?_, la := ?_, mc0 := ?_, mc1 := hcap.2, lc0 := ?_, lc1 := hcapL.2 }⟩, hxr.toStep⟩
          · rw [hDk, hLl]; exact HST.out
          · exact hoth _ _ _ _ (by decide) HXR0.out
          · exact hown.arrX.lower (lo' := w.heap.size + 2) (by omega)
          · refine ⟨vs, by rw [hLl]; have := hownL.len; omega, hownL.arrX.lower (by omega), fun i r hr => ?_⟩
            have hi : i < m.length := by
              rcases Nat.lt_or_ge i m.length with hi | hi
              · exact hi
              · rw [List.getElem?_eq_none (by omega)] at hr; cases hr
            have hr' : r = lamRow m i := by
              rw [lamTo, List.getElem?_map, List.getElem?_range hi] at hr
              simpa using hr.symm
            subst hr'
            obtain ⟨B5, c5, y1, y2, y3, y4⟩ := HV.out i hi
            exact ⟨B5, c5, y1, y2.lower (by omega), y3, y4⟩
          · rw [hDk]; exact hcap.1
          · rw [hLl]; exact hcapL.1
end Go.Proofs.YtaaldapmkhamlaaGreat

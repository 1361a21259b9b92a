/-
  The contract of newForm of the package enumerate.
-/
import Derived.Test.YtaaldapmkhamlaaGreatApp3
namespace Go.Proofs.YtaaldapmkhamlaaGreat
open Go.RowKit
/-- All entries of all stages fit in 64 bits. -/
def St64 (m : List (List Int)) : Prop := ∀ k, k < m.length → Fits64 (stAt m k).2
def RetForm (w : World) (D : List Int) (L : List (List Int)) (e : Ending) (w' : World) : Prop := ∃ mA mc lA lc, e = .returned (.agg #[.slice mA D.length mc, .slice lA L.length lc]) ∧ Ints w' mA 2 .i64 D ∧ Mat64 w' lA L ∧ D.length ≤ mc ∧ mc ≤ 9223372036854775807 ∧ L.length ≤ lc ∧ lc ≤ 9223372036854775807 ∧ Step w w'
/-- The state of the loop of newForm. -/
structure FormI (m : List (List Int)) (wr : World) (base : Nat) (mB lB : Option Addr) (k mc lc : Nat) (vs : List Value) : Prop where
  mi : Own wr base 2 1 mB (k + 1) mc ((minorsTo m k).map (Value.int .i64))
  la : Own wr base 22 1 lB k lc vs
  row : ∀ i, i < k → ∃ B c, vs[i]? = some (.slice B (lamRow m i).length c) ∧ ArrN mB wr B 2 ((lamRow m i).map (Value.int .i64)) ∧ (lamRow m i).length ≤ c ∧ c ≤ 9223372036854775807
theorem FormI.ext {m : List (List Int)} {w w' : World} {base : Nat} {mB lB : Option Addr} {k mc lc : Nat} {vs : List Value} (h : FormI m w base mB lB k mc lc vs) (hx : Ext w w') : FormI m w' base mB lB k mc lc vs :=
  ⟨h.mi.ext hx, h.la.ext hx, fun i hi => by obtain ⟨B, c, a, b, e⟩ := h.row i hi; exact ⟨B, c, a, b.ext hx, e⟩⟩
theorem stRow0 {m : List (List Int)} (hn : AllLen m m.length) {k : Nat} (hk : k < m.length) : (stAt m k).2[0]? = some (ent (stAt m k).2 0 0 :: lamRow m k) := by
  have hl := stAt_length m k
  have ha := stAt_allLen m hn k
  have h0 : (stAt m k).2[0]? = some ((stAt m k).2[0]'(by omega)) := by simp
  have hrl : ((stAt m k).2[0]'(by omega)).length = m.length - k := ha _ (List.getElem_mem _)
  rw [h0]
  congr 1
  apply List.ext_getElem?
  intro i
  cases i with
  | zero => rw [List.getElem?_cons_zero, List.getElem?_eq_getElem (by omega), ent_of h0 (List.getElem?_eq_getElem (by omega))]
  | succ i =>
    rw [List.getElem?_cons_succ, lamRow, List.getElem?_map]
    rcases Nat.lt_or_ge i (m.length - k - 1) with hi | hi
    · rw [List.getElem?_range hi, List.getElem?_eq_getElem (by omega)]
      simp only [Option.map_some]
      rw [ent_of h0 (List.getElem?_eq_getElem (by omega))]
    · rw [List.getElem?_eq_none (by omega), List.getElem?_eq_none (by simpa using hi)]; rfl
/-- Behind the first append. -/
structure FormJ (m : List (List Int)) (w2 w5 : World) (mB lB : Option Addr) (k mc lc : Nat) (vs : List Value) (bx ox by_ oy r cy : Nat) (e0 : Int) : Prop where
  st : w5.heap[w2.heap.size + 1]? = some (.cells #[.slice mB (k + 1 + 1) mc, .slice lB k lc] 113 (0, 0))
  mi : Own w5 w2.heap.size 2 1 mB (k + 1 + 1) mc ((minorsTo m (k + 1)).map (Value.int .i64))
  la : Own w5 w2.heap.size 22 1 lB k lc vs
  row : ∀ i, i < k → ∃ B c, vs[i]? = some (.slice B (lamRow m i).length c) ∧ ArrN mB w5 B 2 ((lamRow m i).map (Value.int .i64)) ∧ (lamRow m i).length ≤ c ∧ c ≤ 9223372036854775807
  hd : w5.cell? ⟨bx, ox, none⟩ = some (.slice (some ⟨by_, oy, none⟩) (r + 1) cy)
  bxl : bx < w5.heap.size
  new : ArrN mB w5 (some ⟨by_, oy, none⟩) 2 ((e0 :: lamRow m k).map (Value.int .i64))
  ex : Ext w2 w5
theorem FormI.step1 {m : List (List Int)} {w2 wr W w4 : World} {mB lB A4 : Option Addr} {k mc lc d4 : Nat} {vs : List Value} {bx ox by_ oy r cy : Nat} {e0 : Int} {x1 : Value}
    (hI : FormI m wr w2.heap.size mB lB k mc lc vs) (hxw : Ext wr W) (hx2 : Ext w2 W) (hown4 : Own w4 w2.heap.size 2 1 A4 (k + 1 + 1) d4 ((minorsTo m k).map (Value.int .i64) ++ [.int .i64 e0])) (hg4 : Grow w2.heap.size 2 W w4) (hgr4 : Grew mB A4 W w4) (he0 : e0 = ent (stAt m k).2 0 0)
    (hB4 : w4.heap[w2.heap.size + 1]? = some (.cells #[x1, .slice lB k lc] 113 (0, 0))) (hX : ∃ cs fr, W.heap[bx]? = some (.cells cs 22 fr) ∧ cs[ox]? = some (.slice (some ⟨by_, oy, none⟩) (r + 1) cy)) (hY : ArrX wr.heap.size W (some ⟨by_, oy, none⟩) 2 ((e0 :: lamRow m k).map (Value.int .i64))) :
    FormJ m w2 (w4.setCell ⟨w2.heap.size + 1, 0, none⟩ (.slice A4 (k + 1 + 1) d4)) A4 lB k d4 lc vs bx ox by_ oy r cy e0 := by
  have hoS := Oth.set (p := ⟨w2.heap.size + 1, 0, none⟩) hB4 (.slice A4 (k + 1 + 1) d4)
  obtain ⟨cs, fr, hh, hc⟩ := hX
  have hh5 := hoS _ _ _ _ (by decide) (hg4.heap hh (by decide))
  refine ⟨box_set2_0 hB4, ?_, ((hI.la.ext hxw).grow hg4 (by decide)).oth hoS (by decide), fun i hi => ?_, by simp [World.cell?, hh5]; exact hc, lt_of_heap hh5, ?_, ?_⟩
  · rw [minorsTo_succ, List.map_append, ← he0]
    exact hown4.oth hoS (by decide)
  · obtain ⟨B, c, a, b, e⟩ := hI.row i hi
    exact ⟨B, c, a, ((b.ext hxw).grew hgr4).oth hoS (by decide), e⟩
  · exact ((hY.arrN hI.mi.blockLt).grew hgr4).oth hoS (by decide)
  · exact (hg4.ext hx2 (Nat.le_refl _)).setCell (p := ⟨w2.heap.size + 1, 0, none⟩) (Nat.le_succ _) _
/-- Behind the second append. -/
theorem FormJ.step2 {m : List (List Int)} {w2 w5 W w6 : World} {mB lB A6 Z : Option Addr} {k mc lc d6 dz : Nat} {vs : List Value} {bx ox by_ oy r cy : Nat} {e0 : Int}
    (hJ : FormJ m w2 w5 mB lB k mc lc vs bx ox by_ oy r cy e0) (hxw : Ext w5 W) (hown6 : Own w6 w2.heap.size 22 1 A6 (k + 1) d6 (vs ++ [.slice Z r dz])) (hg6 : Grow w2.heap.size 22 W w6)
    (hr : (lamRow m k).length = r) (hZ : 0 < r → Z = some ⟨by_, oy + 1, none⟩) (hd1 : r ≤ dz) (hd2 : dz ≤ 9223372036854775807) (hB6 : w6.heap[w2.heap.size + 1]? = some (.cells #[.slice mB (k + 1 + 1) mc, .slice lB k lc] 113 (0, 0))) :
    (w6.setCell ⟨w2.heap.size + 1, 1, none⟩ (.slice A6 (k + 1) d6)).heap[w2.heap.size + 1]? = some (.cells #[.slice mB (k + 1 + 1) mc, .slice A6 (k + 1) d6] 113 (0, 0)) ∧ FormI m (w6.setCell ⟨w2.heap.size + 1, 1, none⟩ (.slice A6 (k + 1) d6)) w2.heap.size mB A6 (k + 1) mc d6 (vs ++ [.slice Z r dz]) ∧ Ext w2 (w6.setCell ⟨w2.heap.size + 1, 1, none⟩ (.slice A6 (k + 1) d6)) := by
  have hoS := Oth.set (p := ⟨w2.heap.size + 1, 1, none⟩) hB6 (.slice A6 (k + 1) d6)
  have hvl : vs.length = k := by have := hJ.la.len; omega
  refine ⟨box_set2_1 hB6, ⟨((hJ.mi.ext hxw).grow hg6 (by decide)).oth hoS (by decide), hown6.oth hoS (by decide), fun i hi => ?_⟩, ?_⟩
  · rcases Nat.lt_or_ge i k with h | h
    · obtain ⟨B, c, a, b, e⟩ := hJ.row i h
      exact ⟨B, c, by rw [List.getElem?_append_left (by omega)]; exact a, ((b.ext hxw).oth (Oth.of_grow hg6) (by decide)).oth hoS (by decide), e⟩
    · obtain rfl : i = k := by omega
      refine ⟨Z, dz, by rw [List.getElem?_append_right (by omega), hvl, hr]; simp, fun h0 => ?_, by rw [hr]; exact hd1, hd2⟩
      have h0' : 0 < r := by simp at h0; omega
      obtain ⟨b, o, cs, fr, hA, h1, hb, hc⟩ := ((hJ.new.ext hxw).oth (Oth.of_grow hg6) (by decide)).oth hoS (by decide) (by simp)
      injection hA with hA
      injection hA with x1 x2
      subst x1 x2
      refine ⟨by_, oy + 1, cs, fr, hZ h0', h1, hb, fun j u hu => ?_⟩
      have := hc (j + 1) u (by rw [List.map_cons, List.getElem?_cons_succ]; exact hu)
      rw [show oy + 1 + j = oy + (j + 1) by omega]; exact this
  · exact (hg6.ext (hJ.ex.trans hxw) (Nat.le_refl _)).setCell (p := ⟨w2.heap.size + 1, 1, none⟩) (Nat.le_succ _) _
set_option maxRecDepth 10000 in
set_option maxHeartbeats 4000000 in
theorem newForm_any {w0 w : World} {A : Option Addr} {c : Nat} {m : List (List Int)} (h : Mat64 w0 A m) (h1 : 1 ≤ m.length) (h8 : m.length ≤ 8) (hn : AllLen m m.length) (hF : Fits64 m) (hok : ElimOK m) (h64 : St64 m) [hx : Ext w0 w] :
    Calls Tryz.prog 55 #[.slice A m.length c] w (RetForm w (minorsTo m m.length) (lamTo m m.length)) := by
  have HN := Lib.hid hn
  have HOK := Lib.hid hok
  have HFI := Lib.hid hF
  have H64 := Lib.hid h64
  clear hn hok hF h64
  go_enter Tryz.func55, Tryz.ntmps55
  go_wp2_with (first | (go_at_call 98; refine (FromInts_ok h m.length h1 (by omega) h1 (by omega) HN.out HFI.out).mono ?_; rintro e w1 ⟨A1, c1, rfl, hM, k1, k2, hs1⟩) | (go_at_call 99; refine (Stages_ok hM h1 (by omega) HN.out HOK.out).mono ?_; rintro e w2 ⟨A2, c2, rfl, hS, k3, k4, hs2⟩))
  have hsl : (stagesOf m).length = m.length := by simp [stagesOf]
  rw [hsl]
  have HSL := Lib.hid hsl
  clear hsl
  obtain ⟨b, o, -, -, -, -, -, -, rfl, -⟩ := StV.rowAt hS HN.out (k := 0) (by omega)
  have hst0 : ((w2.alloc (.cells #[.int .i64 1] 2)).alloc (.cells #[.slice (some ⟨w2.heap.size, 0, none⟩) 1 1, .slice none 0 0] 113)).heap[w2.heap.size + 1]? = some (.cells #[.slice (some ⟨w2.heap.size, 0, none⟩) 1 1, .slice none 0 0] 113 (0, 0)) := by
    have := heap_alloc_new (w2.alloc (.cells #[.int .i64 1] 2)) (.cells #[.slice (some ⟨w2.heap.size, 0, none⟩) 1 1, .slice none 0 0] 113)
    rwa [World.size_alloc] at this
  go_loopw [9, 10, 11, 26] (fun _ _ _ i wr => ∃ (k : Nat) (mB lB : Option Addr) (mc lc : Nat) (vs : List Value), k ≤ m.length ∧ i = .int .i64 k ∧ wr.heap[w2.heap.size + 1]? = some (.cells #[.slice mB (k + 1) mc, .slice lB k lc] 113 (0, 0)) ∧ FormI m wr w2.heap.size mB lB k mc lc vs ∧ Ext w2 wr) (fun _ _ _ i _ => m.length - (intOf i).toNat)
  case atStart =>
    exact ⟨0, _, none, _, 0, [], by omega, rfl, hst0, ⟨(Own.new w2 2 1 1 #[.int .i64 1] rfl (by omega)).ext inferInstance, Own.nil _ _ _ _, fun i hi => absurd hi (by omega)⟩, inferInstance⟩
  case round =>
    clear hst0
    obtain ⟨k, mB, lB, mc, lc, vs, hk, rfl, hst, hI, hxr⟩ := hrel
    by_cases hlt : k < m.length
    · have hsk : (stagesOf m)[k]? = some (stAt m k).2 := by simp [stagesOf, hlt]
      obtain ⟨b', o', B1, c1', hA, e1, hMk, l1, l2, hb⟩ := (hS.ext hxr).at_ hsk
      injection hA with hA
      injection hA with x1 x2
      subst x1 x2
      have hstl := stAt_length m k
      have hto := fun W (hh : Ext wr W) => ToIntsX_ok (w := W) (c := c1') hMk (m.length - k) (by omega) (by omega) (by omega) (by omega) (stAt_allLen m HN.out k) (H64.out k hlt)
      rw [hstl] at e1 l1
      obtain ⟨r, hr⟩ : ∃ r, m.length - k = r + 1 := ⟨m.length - k - 1, by omega⟩
      rw [hr] at e1 l1
      have hto2 : ∀ W, Ext wr W → Calls Tryz.prog 100 #[.slice B1 (r + 1) c1'] W fun e w' => ∃ X cX, e = .returned (.tuple #[.slice X (r + 1) cX, .bool true]) ∧ Mat64X W.heap.size w' X (stAt m k).2 ∧ r + 1 ≤ cX ∧ cX ≤ 9223372036854775807 ∧ Step W w' := fun W hh => by
        have := hto W hh
        unfold RetMat64BX at this
        rw [hstl, hr] at this
        exact this
      have HTO := Lib.hid hto2
      have HR := Lib.hid hr
      have HSTL := Lib.hid hstl
      obtain ⟨s1, s2, s3, s4, s5⟩ := box_cells2 hst
      have HST := Lib.hid hst
      have oS : Old (w2.heap.size + 1) wr := ⟨s5⟩
      clear hto hto2 hr hstl hsk hst
      go_wp2_with (go_at_call 100; refine (HTO.out _ inferInstance).mono ?_; rintro e w3 ⟨X, cX, rfl, hX, x1, x2, hs3⟩)
      obtain ⟨vx, v1, v2, v3⟩ := hX
      obtain ⟨By, cy, y1, y2, y3, y4⟩ := v3 0 _ (stRow0 HN.out hlt)
      obtain ⟨bx, ox, rfl, y5, y6, y7⟩ := v2.at_ y1
      have hlrl : (lamRow m k).length = r := by have := HR.out; simp [lamRow]; omega
      obtain ⟨e0, he0⟩ : ∃ e0, e0 = ent (stAt m k).2 0 0 := ⟨_, rfl⟩
      rw [← he0] at y1 y2 y3 y5
      have HE0 := Lib.hid he0
      obtain ⟨by_, oy, rfl, y8, y9, y10⟩ := y2.at_ (i := 0) (u := .int .i64 e0) (by simp)
      simp only [List.length_cons, hlrl, Nat.add_zero] at y1 y3 y5 y8
      have HY2 := Lib.hid y2
      have HLR := Lib.hid hlrl
      have hmBl := hI.mi.blockLt
      have HX : Hid (∃ cs fr, w3.heap[bx]? = some (.cells cs 22 fr) ∧ cs[ox]? = some (.slice (some ⟨by_, oy, none⟩) (r + 1) cy)) := Lib.hid (by
        obtain ⟨bq, oq, cs, fr, hA, _, hh, hc⟩ := v2 (by rw [v1]; have := HSTL.out; have := HR.out; omega)
        injection hA with hA
        injection hA with z1 z2
        subst z1 z2
        exact ⟨cs, fr, hh, by simpa using hc 0 _ y1⟩)
      have oX : Old bx w3 := ⟨y7⟩
      have oY : Old by_ w3 := ⟨y10⟩
      clear v1 v2 v3 he0 hlrl y1 y2
      go_region_law ((refine step_appx _ rfl (.tmp 36) (.tmp 42) 22 rfl w2.heap.size 2 (.int .i64 0) 1 8 Tryz.underlying22 infoI64 rfl (by decide) (by decide) mB (k + 1) mc _ (by simp [Act.eval]) (hI.mi.ext inferInstance) ⟨w3.heap.size, 0, none⟩ 1 1 [.int .i64 e0] (by simp [Act.eval]) ((Arr.new w3 2 #[.int .i64 e0]).ext inferInstance) rfl (by simp [Value.oneCell']) (by omega) (by have := hxr.size; have := hs3.size; simp <;> omega) ?_); intro A4 d4 w4 hown4 hg4 hgr4; have hb4 := hg4.heap (heap_of_ext (inferInstance : Ext wr ((w3.alloc (Obj.cells #[Value.int .i64 e0] 2)).drew)) HST.out) (by decide); obtain ⟨q1, q2, q3, q4, q5⟩ := box_cells2 hb4; have HB4 := Lib.hid hb4; clear hb4)
      all_goals
        have hJ := hI.step1 (W := (w3.alloc (Obj.cells #[Value.int .i64 e0] 2)).drew) (bx := bx) (ox := ox) (by_ := by_) (oy := oy) (r := r) (cy := cy) inferInstance inferInstance hown4 hg4 hgr4 HE0.out HB4.out (by obtain ⟨cs, fr, z1, z2⟩ := HX.out; exact ⟨cs, fr, heap_of_ext (inferInstance : Ext w3 ((w3.alloc (Obj.cells #[Value.int .i64 e0] 2)).drew)) z1, z2⟩) (HY2.out.ext inferInstance)
        generalize w4.setCell ⟨w2.heap.size + 1, 0, none⟩ (.slice A4 (k + 1 + 1) d4) = w5 at hJ ⊢
        clear hown4 hg4 hgr4 HB4 q1 q2 q3 q4 q5
        obtain ⟨t1, t2, t3, t4, t5⟩ := box_cells2 hJ.st
        have t6 := hJ.hd
        have t7 := hJ.bxl
        have HJ := Lib.hid hJ
        have oS5 : Old (w2.heap.size + 1) w5 := ⟨t5⟩
        have oX5 : Old bx w5 := ⟨t7⟩
        have hx25 : Ext w2 w5 := hJ.ex
        clear hJ
        by_cases hcy : cy = 1
        · obtain rfl : r = 0 := by omega
          subst hcy
          go_wp2_with fail
          go_region_law ((refine step_app _ rfl (.tmp 46) (.tmp 51) 23 rfl w2.heap.size 22 (.slice none 0 0) 1 24 Tryz.underlying23 infoSlI64 rfl (by decide) (by decide) lB k lc vs (by simp [Act.eval]) (HJ.out.la.ext inferInstance) (some ⟨w5.heap.size, 0, none⟩) 1 1 [.slice (some ⟨by_, oy, none⟩) 0 0] (by simp [Act.eval]) ((Arr.new w5 22 #[.slice (some ⟨by_, oy, none⟩) 0 0]).ext inferInstance) rfl (by simp [Value.oneCell']) (by omega) (by have := hx25.size; simp <;> omega) ?_); intro A6 d6 w6 hown6 hg6; have hb6 := hg6.heap (heap_of_ext (inferInstance : Ext w5 ((w5.alloc (Obj.cells #[Value.slice (some ⟨by_, oy, none⟩) 0 0] 22)).drew)) HJ.out.st) (by decide); obtain ⟨q1, q2, q3, q4, q5⟩ := box_cells2 hb6; have HB6 := Lib.hid hb6; clear hb6)
          all_goals
            have hfin := HJ.out.step2 (W := (w5.alloc (Obj.cells #[Value.slice (some ⟨by_, oy, none⟩) 0 0] 22)).drew) inferInstance hown6 hg6 HLR.out (fun h0 => absurd h0 (by omega)) (by omega) (by omega) HB6.out
            have HFN := Lib.hid hfin
            clear hfin
            go_wp2
            refine ⟨⟨k + 1, A4, A6, d4, d6, _, by omega, by go_num, HFN.out.1, HFN.out.2.1, HFN.out.2.2⟩, by simp [intOf] <;> omega⟩
        · have hr11 : (1 : Int) ≤ (r : Int) + 1 := by omega
          go_wp2_with fail
          go_region_law ((refine step_app _ rfl (.tmp 46) (.tmp 51) 23 rfl w2.heap.size 22 (.slice none 0 0) 1 24 Tryz.underlying23 infoSlI64 rfl (by decide) (by decide) lB k lc vs (by simp [Act.eval]) (HJ.out.la.ext inferInstance) (some ⟨w5.heap.size, 0, none⟩) 1 1 [.slice (some ⟨by_, oy + 1, none⟩) r (cy - 1)] (by simp [Act.eval]) ((Arr.new w5 22 #[.slice (some ⟨by_, oy + 1, none⟩) r (cy - 1)]).ext inferInstance) rfl (by simp [Value.oneCell']) (by omega) (by have := hx25.size; simp <;> omega) ?_); intro A6 d6 w6 hown6 hg6; have hb6 := hg6.heap (heap_of_ext (inferInstance : Ext w5 ((w5.alloc (Obj.cells #[Value.slice (some ⟨by_, oy + 1, none⟩) r (cy - 1)] 22)).drew)) HJ.out.st) (by decide); obtain ⟨q1, q2, q3, q4, q5⟩ := box_cells2 hb6; have HB6 := Lib.hid hb6; clear hb6)
          all_goals
            have hfin := HJ.out.step2 (W := (w5.alloc (Obj.cells #[Value.slice (some ⟨by_, oy + 1, none⟩) r (cy - 1)] 22)).drew) inferInstance hown6 hg6 HLR.out (fun _ => rfl) (by omega) (by omega) HB6.out
            have HFN := Lib.hid hfin
            clear hfin
            go_wp2
            refine ⟨⟨k + 1, A4, A6, d4, d6, _, by omega, by go_num, HFN.out.1, HFN.out.2.1, HFN.out.2.2⟩, by simp [intOf] <;> omega⟩
    · obtain rfl : k = m.length := by omega
      clear hlt
      obtain ⟨s1, s2, s3, s4, s5⟩ := box_cells2 hst
      have hr1 : wr.heap[w.heap.size]? = some (.cells #[.slice none 0 0, .slice none 0 0] 113 (0, 0)) := heap_of_ext (Ext.trans (Ext.trans (hs1.ext) (hs2.ext)) hxr) (heap_alloc_new w _)
      obtain ⟨r1, r2, r3, r4, r5⟩ := box_cells2 hr1
      have HR := Lib.hid hr1
      clear hr1 hst
      go_wp2
      have hDl : (minorsTo m m.length).length = m.length + 1 := minorsTo_length _ _
      have hLl : (lamTo m m.length).length = m.length := by simp [lamTo]
      have hcap := hI.mi.cap
      have hcapL := hI.la.cap
      have hoR := Oth.set2 HR.out 0 1 (.slice mB (m.length + 1) mc) (.slice lB m.length lc)
      have hxw : Ext w wr := Ext.trans (Ext.trans (Ext.trans (inferInstance : Ext w (w.alloc (.cells #[.slice none 0 0, .slice none 0 0] 113))) hs1.ext) hs2.ext) hxr
      refine bodyPost_ret (v := .agg #[.slice mB (m.length + 1) mc, .slice lB m.length lc]) (by simp [results, Tryz.results55, go_sem, r1, r2]) rfl ⟨mB, mc, lB, lc, by rw [hDl, hLl], ?_, ?_, by rw [hDl]; exact hcap.1, hcap.2, by rw [hLl]; exact hcapL.1, hcapL.2, ?_⟩
      · exact Ints.oth hI.mi.arr hoR (by decide)
      · refine ⟨vs, by rw [hLl]; have := hI.la.len; omega, hI.la.arr.oth hoR (by decide), fun i r hr => ?_⟩
        have hi : i < m.length := by
          have := (List.getElem?_eq_some_iff.1 hr).1
          omega
        have hr' : r = lamRow m i := by
          rw [lamTo, List.getElem?_map, List.getElem?_range hi] at hr
          simpa using hr.symm
        subst hr'
        obtain ⟨B5, c5, y1, y2, y3, y4⟩ := hI.row i hi
        exact ⟨B5, c5, y1, y2.arr.oth hoR (by decide), y3, y4⟩
      · exact ((hxw.setCell (p := ⟨w.heap.size, 0, none⟩) (Nat.le_refl _) _).setCell (p := ⟨w.heap.size, 1, none⟩) (Nat.le_refl _) _).toStep
end Go.Proofs.YtaaldapmkhamlaaGreat

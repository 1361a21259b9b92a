/-
  The contract of CanonicalSign of the package vector; clones that are owned.
-/
import Derived.Test.YtaaldapmkhamlaaGreatVec4
namespace Go.Proofs.YtaaldapmkhamlaaGreat
open Go.RowKit
section
variable {w w' : World} {base : Nat} {e : TypeId} {A : Option Addr} {n c : Nat} {xs : List Value}
theorem Own.open_ (h : Own w base e 1 A n c xs) (hn : 0 < n) : ∃ g, A = some ⟨g, 0, none⟩ ∧ base ≤ g ∧ g < w.heap.size ∧ (∀ i u, xs[i]? = some u → w.cell? ⟨g, i, none⟩ = some u ∧ w.frozen? ⟨g, i, none⟩ = false) ∧ ∀ i u, i < n → Own (w.setCell ⟨g, i, none⟩ u) base e 1 (some ⟨g, 0, none⟩) n c (xs.set i u) := by
  obtain ⟨hl, h2⟩ := h
  rcases h2 with ⟨_, h0⟩ | ⟨g, cap, cur, hv, hb, hh, h3, h4, h5, h6⟩
  · omega
  · injection hv with hA hnn hc
    subst hA hc
    refine ⟨g, rfl, hb, lt_of_heap hh, fun i u hu => ?_, fun i u hi => ⟨by simpa using hl, .inr ⟨g, c, cur.setIfInBounds i u, rfl, hb, heap_setCell_self hh u, h3, h4, by simpa using h5, ?_⟩⟩⟩
    · rw [← h6, List.getElem?_take] at hu
      split at hu
      · exact ⟨by simp [World.cell?, hh]; simpa using hu, by simp [World.frozen?, hh]⟩
      · cases hu
    · rw [Array.toList_setIfInBounds, ← h6, List.take_set]
end
/-- A new slice, owned. -/
def RetOwn (w : World) (e : TypeId) (k : IntKind) (l : List Int) (ev : Ending) (w' : World) : Prop := ∃ B d, ev = .returned (.slice B l.length d) ∧ Own w' w.heap.size e 1 B l.length d (l.map (Value.int k)) ∧ Step w w'
set_option maxHeartbeats 400000 in
theorem CloneI_any {w0 w : World} {A : Option Addr} {c : Nat} {l : List Int} (h : Ints w0 A 2 .i64 l) (hl : l.length ≤ 1099511627776) [hx : Ext w0 w] :
    Calls Tryz.prog 59 #[.slice A l.length c] w (RetOwn w 2 .i64 l) := by
  have hq := run_eql_nil (P := Tryz.prog) Tryz.underlying22
  have h1 := h.ext hx
  cases A with
  | none =>
    have h0 : l = [] := by
      rcases Nat.eq_zero_or_pos l.length with h0 | h0
      · exact List.eq_nil_of_length_eq_zero h0
      · obtain ⟨b, o, cs, fr, hh, _⟩ := h1 (by simpa using h0)
        cases hh
    subst h0
    go_enter Tryz.func59, Tryz.ntmps59
    go_wp2
    go_ret
    exact ⟨none, 0, rfl, Own.nil _ _ _ _, Step.of _ _⟩
  | some ad =>
    go_enter Tryz.func59, Tryz.ntmps59
    go_wp2_with (at_builtin; refine wpList_app _ rfl _ _ 22 rfl w.heap.size 2 (.int .i64 0) 1 8 Tryz.underlying22 infoI64 rfl (by omega) (by omega) _ 0 _ [] rfl (Own.empty w _) _ l.length c (l.map (Value.int .i64)) rfl (Arr.ext h1 inferInstance) (by simp) oneCell_ints (by omega) (by simp) ?_; intro A1 c1 w1 hown hg)
    go_ret
    have hxx : Ext w w1 := hg.ext inferInstance (Nat.le_refl _)
    exact ⟨A1, c1, by simp, by simpa using hown, hxx.toStep⟩

/-- The first number that is not 0; 0 if there is none. -/
def firstNZ : List Int → Int
  | [] => 0
  | a :: l => if a = 0 then firstNZ l else a
/-- The one of x and -x whose first number that is not 0 is positive. -/
def canonL (x : List Int) : List Int := if firstNZ x < 0 then x.map (fun c => -c) else x
def canonB (x : List Int) : Bool := inRangeB x && !decide (firstNZ x = 0)
theorem idx_first : ∀ (l : List Int) (i : Nat), (firstNZ l = 0 ∧ Lib.idxByFrom (fun (_ : Int) y => y != 0) default l i = -1) ∨ (firstNZ l ≠ 0 ∧ ∃ k, l[k]? = some (firstNZ l) ∧ k < l.length ∧ Lib.idxByFrom (fun (_ : Int) y => y != 0) default l i = ((i + k : Nat) : Int))
  | [], i => .inl ⟨rfl, rfl⟩
  | a :: l, i => by
    by_cases ha : a = 0
    · have e1 : firstNZ (a :: l) = firstNZ l := by simp [firstNZ, ha]
      have e2 : Lib.idxByFrom (fun (_ : Int) y => y != 0) default (a :: l) i = Lib.idxByFrom (fun (_ : Int) y => y != 0) default l (i + 1) := by simp [Lib.idxByFrom, ha]
      rw [e1, e2]
      rcases idx_first l (i + 1) with h | ⟨h1, k, h2, h3, h4⟩
      · exact .inl h
      · exact .inr ⟨h1, k + 1, by simpa using h2, by simp; omega, by rw [h4]; omega⟩
    · refine .inr ⟨by simp [firstNZ, ha], 0, by simp [firstNZ, ha], by simp, by simp [Lib.idxByFrom, ha]⟩
theorem nz_pred : ∀ w, PredAt Tryz.prog 94 #[] (Value.int .i64) (fun x : Int => x != 0) w := fun w W x _ => by
  unfold FnGives
  go_enter Tryz.func94, Tryz.ntmps94
  go_wp2
  go_ret
  exact ⟨rfl, 0, rfl⟩
/-- The place of the first number that is not 0. -/
theorem IndexNZ_any {w0 w : World} {A : Option Addr} {c : Nat} {l : List Int} (h : Ints w0 A 2 .i64 l) (hl : l.length ≤ 1099511627776) [hx : Ext w0 w] :
    Calls Tryz.prog 93 #[.slice A l.length c, .func (.func 94) #[] #[]] w fun e w' => (∃ i : Int, e = .returned (.int .i64 i) ∧ ((firstNZ l = 0 ∧ i = -1) ∨ (firstNZ l ≠ 0 ∧ ∃ k : Nat, l[k]? = some (firstNZ l) ∧ k < l.length ∧ i = k))) ∧ ∃ q, w' = w.drewN q := by
  have h0 := h.ext hx
  rcases Nat.eq_zero_or_pos l.length with hz | hz
  · have hl0 := List.eq_nil_of_length_eq_zero hz
    subst hl0
    exact (Tryz.slices_IndexFunc_empty (α := Int) A c _ w).mono fun e w' ⟨he, hw⟩ => ⟨⟨-1, he, .inl ⟨rfl, rfl⟩⟩, 0, hw⟩
  · obtain ⟨b, o, -, rfl, -⟩ := h0.at_ hz
    refine (Tryz.slices_IndexFunc (α := Int) (Value.int .i64) (fun x => x != 0) 94 #[] (enters_of Tryz.func94 (by kernel_rfl) rfl) b o l.length c l w (nz_pred w) (Nat.le_refl _) (by omega) (fun j hj => ?_)).mono ?_
    · have := (ints_cell h0 (i := j) (x := l[j]) (by simp [hj])).1
      rw [this]; simp [hj]
    · rintro e w' ⟨he, hw⟩
      refine ⟨⟨_, he, ?_⟩, hw⟩
      rw [List.take_length]
      rcases idx_first l 0 with ⟨h1, h2⟩ | ⟨h1, k, h2, h3, h4⟩
      · exact .inl ⟨h1, h2⟩
      · exact .inr ⟨h1, k, h2, h3, by unfold Lib.idxBy; rw [h4]; simp⟩
/-- The first j entries are negated. -/
def negTo (x : List Int) (j : Nat) : List Int := (x.take j).map (fun c => -c) ++ x.drop j
theorem negTo_length (x : List Int) (j : Nat) : (negTo x j).length = x.length := by simp [negTo]; omega
theorem negTo_get (x : List Int) (j : Nat) (y : Int) (h : x[j]? = some y) : (negTo x j)[j]? = some y := by
  have hj := (List.getElem?_eq_some_iff.1 h).1
  rw [negTo, List.getElem?_append_right (by simp; omega)]
  simp only [List.length_map, List.length_take, Nat.min_eq_left (Nat.le_of_lt hj), Nat.sub_self, List.getElem?_drop, Nat.add_zero]
  exact h
theorem negTo_succ (x : List Int) (j : Nat) (y : Int) (h : x[j]? = some y) : (negTo x j).set j (-y) = negTo x (j + 1) := by
  have hj := (List.getElem?_eq_some_iff.1 h).1
  have hy := (List.getElem?_eq_some_iff.1 h).2
  rw [negTo, negTo, List.set_append_right _ _ (by simp; omega), List.drop_eq_getElem_cons hj, hy, List.take_add_one, h]
  simp [Nat.min_eq_left (Nat.le_of_lt hj)]
theorem negTo_all (x : List Int) (j : Nat) (h : x.length ≤ j) : negTo x j = x.map (fun c => -c) := by
  rw [negTo, List.take_of_length_le h, List.drop_eq_nil_of_le h]; simp
def RetCanon (w : World) (x : List Int) (e : Ending) (w' : World) : Prop :=
  ((canonB x = true ∧ ∃ B d, e = .returned (.tuple #[.slice B x.length d, .bool true]) ∧ Ints w' B 2 .i64 (canonL x) ∧ x.length ≤ d ∧ d ≤ 9223372036854775807) ∨ (canonB x = false ∧ e = .returned (.tuple #[.slice none 0 0, .bool false]))) ∧ Step w w'
set_option maxHeartbeats 2000000 in
theorem CanonicalSign_any {w0 w : World} {X : Option Addr} {c : Nat} {x : List Int} (h : Ints w0 X 2 .i64 x) (hl : x.length ≤ 1099511627776) [hx : Ext w0 w] :
    Calls Tryz.prog 52 #[.slice X x.length c] w (RetCanon w x) := by
  have h0 := h.ext hx
  cases hr : inRangeB x
  · have HF : Hid (canonB x = false) := Lib.hid (by simp [canonB, hr])
    have hir := fun W (hxx : Ext w0 W) => inRange_any (w := W) (c := c) h hl
    rw [hr] at hir
    have HI := Lib.hid hir
    clear hir hr
    go_enter Tryz.func52, Tryz.ntmps52
    go_wp2_with (go_at_call 90; refine (HI.out _ inferInstance).mono ?_; rintro e w' ⟨rfl, rfl⟩)
    go_ret2
    exact ⟨.inr ⟨HF.out, rfl⟩, Step.of _ _⟩
  have hir := fun W (hxx : Ext w0 W) => inRange_any (w := W) (c := c) h hl
  rw [hr] at hir
  have HI := Lib.hid hir
  have HX := Lib.hid (inRangeB_iff.1 hr)
  clear hir
  by_cases hz : firstNZ x = 0
  · have HF : Hid (canonB x = false) := Lib.hid (by simp [canonB, hz])
    have hix := fun W (hxx : Ext w0 W) => (IndexNZ_any (w := W) (c := c) h hl).mono (R' := fun e w' => e = .returned (.int .i64 (-1)) ∧ ∃ q, w' = W.drewN q) (fun e w' ⟨⟨i, he, hi⟩, hq⟩ => ⟨by rcases hi with ⟨_, rfl⟩ | ⟨hh, _⟩; exact he; exact absurd hz hh, hq⟩)
    have HX2 := Lib.hid hix
    clear hix hr hz
    go_enter Tryz.func52, Tryz.ntmps52
    go_wp2_with (first
      | (go_at_call 90; refine (HI.out _ inferInstance).mono ?_; rintro e w' ⟨rfl, rfl⟩)
      | (go_at_call 93; refine (HX2.out _ inferInstance).mono ?_; rintro e w' ⟨rfl, q, rfl⟩))
    go_ret2
    exact ⟨.inr ⟨HF.out, rfl⟩, Step.of _ _⟩
  have HC : Hid (canonB x = true) := Lib.hid (by simp [canonB, hr, hz])
  have hix := fun W (hxx : Ext w0 W) => (IndexNZ_any (w := W) (c := c) h hl).mono (R' := fun e w' => (∃ k : Nat, x[k]? = some (firstNZ x) ∧ k < x.length ∧ e = .returned (.int .i64 k)) ∧ ∃ q, w' = W.drewN q) (fun e w' ⟨⟨i, he, hi⟩, hq⟩ => ⟨by
    rcases hi with ⟨hh, _⟩ | ⟨_, k, h1, h2, h3⟩
    · exact absurd hh hz
    · exact ⟨k, h1, h2, by rw [he, h3]⟩, hq⟩)
  have HX2 := Lib.hid hix
  have hcl := fun W (hxx : Ext w0 W) => CloneI_any (w := W) (c := c) h hl
  have HCL := Lib.hid hcl
  clear hix hcl hr
  obtain ⟨f, hf⟩ : ∃ f, f = firstNZ x := ⟨_, rfl⟩
  rw [← hf] at HX2 hz
  have HFF := Lib.hid hf
  clear hf
  go_enter Tryz.func52, Tryz.ntmps52
  by_cases hneg : f < 0
  · have hL : Hid (canonL x = x.map (fun c => -c)) := Lib.hid (by unfold canonL; rw [← HFF.out, if_pos hneg])
    have hfd : decide (f < 0) = true := by simpa using hneg
    go_wp2_with (first
      | (go_at_call 90; refine (HI.out _ inferInstance).mono ?_; rintro e w' ⟨rfl, rfl⟩)
      | (go_at_call 93; refine (HX2.out _ inferInstance).mono ?_; rintro e w' ⟨⟨k, hk1, hk2, rfl⟩, q, rfl⟩; (have HK := Lib.hid hk1); clear hk1)
      | (go_at_call 59; refine (HCL.out _ inferInstance).mono ?_; rintro e w1 ⟨B, d, rfl, hown, hs1⟩; obtain ⟨b1, o1, y1, rfl, hy1, hc1, hb1⟩ := (h0.ext (inferInstance : Ext w w1)).at_ (i := k) hk2; (obtain rfl : y1 = f := by rw [HK.out] at hy1; injection hy1 with hy1; exact hy1.symm); clear hy1))
    have hown1 : Own w1 w.heap.size 2 1 B x.length d ((negTo x 0).map (Value.int .i64)) := by simpa [negTo] using hown
    obtain ⟨g, rfl, -, -, -, -⟩ := hown.open_ (by omega)
    have hx1 : Ext w w1 := inferInstance
    clear hown hc1 hk2 hb1 HK
    go_loopw [6, 7, 24] (fun _ _ i wr => ∃ j : Nat, j ≤ x.length ∧ i = .int .i64 j ∧ Own wr w.heap.size 2 1 (some ⟨g, 0, none⟩) x.length d ((negTo x j).map (Value.int .i64)) ∧ Ext w wr) (fun _ _ i _ => x.length - (intOf i).toNat)
    case atStart => exact ⟨0, by omega, rfl, hown1, hx1⟩
    case round =>
      obtain ⟨j, hj, rfl, hown, hxr⟩ := hrel
      clear hown1 hx1
      by_cases hlt : j < x.length
      · obtain ⟨y, hy⟩ : ∃ y, x[j]? = some y := ⟨_, List.getElem?_eq_getElem hlt⟩
        obtain ⟨g1, g2⟩ := ints_cell (h0.ext hxr) hy
        obtain ⟨g', hg, hb, hsz, hcells, hset⟩ := hown.open_ (by omega)
        injection hg with hg
        injection hg with hg _
        subst hg
        obtain ⟨c1, c2⟩ := hcells j (.int .i64 y) (by rw [List.getElem?_map, negTo_get x j y hy]; rfl)
        have hst := hset j (.int .i64 (-y)) (by omega)
        rw [show ((negTo x j).map (Value.int .i64)).set j (.int .i64 (-y)) = (negTo x (j + 1)).map (Value.int .i64) by rw [← negTo_succ x j y hy, List.map_set]] at hst
        have hyb := HX.out y (List.mem_of_getElem? hy)
        obtain ⟨hyb1, hyb2⟩ := hyb
        have HST := Lib.hid hst
        clear hst hset hcells hy
        go_wp2
        refine ⟨⟨j + 1, by omega, by go_num, HST.out, hxr.setCell (p := ⟨g, j, none⟩) hb _⟩, by simp [intOf] <;> omega⟩
      · obtain rfl : j = x.length := by omega
        clear hlt
        go_wp2
        go_ret2
        have hcap := hown.cap
        refine ⟨.inl ⟨HC.out, _, _, rfl, ?_, hcap.1, hcap.2⟩, Step.of _ _⟩
        rw [hL.out, ← negTo_all x x.length (Nat.le_refl _)]
        exact hown.arr
  · have hL : Hid (canonL x = x) := Lib.hid (by unfold canonL; rw [← HFF.out, if_neg hneg])
    have hfd : decide (f < 0) = false := by simpa using hneg
    go_wp2_with (first
      | (go_at_call 90; refine (HI.out _ inferInstance).mono ?_; rintro e w' ⟨rfl, rfl⟩)
      | (go_at_call 93; refine (HX2.out _ inferInstance).mono ?_; rintro e w' ⟨⟨k, hk1, hk2, rfl⟩, q, rfl⟩; (have HK := Lib.hid hk1); clear hk1)
      | (go_at_call 59; refine (HCL.out _ inferInstance).mono ?_; rintro e w1 ⟨B, d, rfl, hown, hs1⟩; obtain ⟨b1, o1, y1, rfl, hy1, hc1, hb1⟩ := (h0.ext (inferInstance : Ext w w1)).at_ (i := k) hk2; (obtain rfl : y1 = f := by rw [HK.out] at hy1; injection hy1 with hy1; exact hy1.symm); clear hy1))
    go_ret2
    have hcap := hown.cap
    exact ⟨.inl ⟨HC.out, _, _, rfl, by rw [hL.out]; exact hown.arr, hcap.1, hcap.2⟩, Step.of _ _⟩
end Go.Proofs.YtaaldapmkhamlaaGreat

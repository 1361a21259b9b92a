/-
  The contract of SortUnique of the package vector, where it does not refuse.
-/
import Derived.Test.YtaaldapmkhamlaaGreatVec9
import Derived.Laws.EntriesVeiled
namespace Go.Proofs.YtaaldapmkhamlaaGreat
open Go.RowKit
/-- The norm of a vector. -/
def nrm (m : List (List Int)) (x : List Int) : Int := dotL x (applyL m x)
theorem dotL_neg_right : ∀ r x, dotL r (x.map (fun c => -c)) = -dotL r x
  | [], _ => by simp [dotL_nil]
  | _ :: _, [] => by simp [dotL]
  | a :: l, b :: m => by simp only [List.map_cons, dotL, dotL_neg_right l m, Int.mul_neg]; omega
theorem dotL_neg_left : ∀ r x, dotL (r.map (fun c => -c)) x = -dotL r x
  | [], _ => by simp [dotL_nil]
  | _ :: _, [] => by simp [dotL]
  | a :: l, b :: m => by simp only [List.map_cons, dotL, dotL_neg_left l m, Int.neg_mul]; omega
theorem nrm_neg (m : List (List Int)) (x : List Int) : nrm m (x.map (fun c => -c)) = nrm m x := by
  have h : applyL m (x.map (fun c => -c)) = (applyL m x).map (fun c => -c) := by simp [applyL, dotL_neg_right]
  unfold nrm
  rw [h, dotL_neg_right, dotL_neg_left, Int.neg_neg]
theorem nrm_canon (m : List (List Int)) (x : List Int) : nrm m (canonL x) = nrm m x := by
  unfold canonL; split
  · exact nrm_neg m x
  · rfl
/-- A vector that SortUnique takes. -/
structure VecOK (m : List (List Int)) (x : List Int) : Prop where
  fit : fitsB m.length x = true
  nb : dotB (nrm m x) = true
  cb : canonB x = true
structure RedM (m : List (List Int)) : Prop where
  red : isRedB m = true
  all : AllLen m m.length
  ent : Ent18 m
  n8 : m.length ≤ 8
/-- The elements of the list so far. -/
structure ElsOK (m : List (List Int)) (ls : List (List Int)) (w : World) (els : List KE) : Prop where
  lsE : els.map KE.l = ls.map canonL
  keyE : els.map KE.key = ls.map (nrm m)
  ok : ∀ x ∈ els, x.ok w
  cap : ∀ x ∈ els, x.l.length ≤ x.c ∧ x.c ≤ 9223372036854775807
theorem ElsOK.len {m ls : List (List Int)} {w : World} {els : List KE} (h : ElsOK m ls w els) : els.length = ls.length := by
  have := congrArg List.length h.lsE; simpa using this
/-- The cells of the elements, one behind the other. -/
def flatE (els : List KE) : List Value := els.flatMap KE.enc
theorem flatE_length (els : List KE) : (flatE els).length = els.length * 2 := by
  induction els with
  | nil => rfl
  | cons x l ih => simp only [flatE, List.flatMap_cons, List.length_append, List.length_cons] at ih ⊢; rw [ih]; simp [KE.enc]; omega
theorem flatE_get : ∀ (els : List KE) (i : Nat) (x : KE), els[i]? = some x → (flatE els)[2 * i]? = some (.int .i64 x.key) ∧ (flatE els)[2 * i + 1]? = some (.slice x.A x.l.length x.c)
  | [], i, x, h => by simp at h
  | y :: l, 0, x, h => by simp at h; subst h; exact ⟨rfl, rfl⟩
  | y :: l, i + 1, x, h => by
    have := flatE_get l i x (by simpa using h)
    rw [show 2 * (i + 1) = 2 * i + 2 by omega]
    exact this
theorem KRow.of_own {w : World} {base : Nat} {A : Option Addr} {n c : Nat} {els : List KE} (h : Own w base 110 2 A n c (flatE els)) (hn : 0 < n) : ∃ g, A = some ⟨g, 0, none⟩ ∧ base ≤ g ∧ KRow w g els := by
  obtain ⟨hl, h2⟩ := h
  rcases h2 with ⟨_, h0⟩ | ⟨g, cap, cur, hv, hb, hh, h3, h4, h5, h6⟩
  · omega
  · injection hv with hA
    refine ⟨g, hA, hb, cur, hh, fun i x hx => ?_⟩
    obtain ⟨a, b⟩ := flatE_get els i x hx
    rw [← h6, List.getElem?_take] at a b
    constructor
    · split at a
      · simpa using a
      · cases a
    · split at b
      · simpa using b
      · cases b
theorem infoKeyed : (Tryz.prog.info? 110).map (fun i => (i.zero, i.size, i.bytes)) = some (some (.agg #[.int .i64 0, .slice none 0 0]), 2, 32) := by kernel_rfl
def RetSorted (w : World) (m ls : List (List Int)) (e : Ending) (w' : World) : Prop := ∃ A c L, e = .returned (.tuple #[.slice A (List.length L) c, .bool true]) ∧ Mat64 w' A L ∧ L.length ≤ c ∧ c ≤ 9223372036854775807 ∧ L.Perm (ls.map canonL) ∧ L.Pairwise (fun x y => cmpK (nrm m x) (nrm m y) x y < 0) ∧ Step w w'
theorem canonL_length (x : List Int) : (canonL x).length = x.length := by unfold canonL; split <;> simp
theorem flatE_snoc (els : List KE) (x : KE) : flatE (els ++ [x]) = flatE els ++ [.int .i64 x.key, .slice x.A x.l.length x.c] := by simp [flatE, KE.enc]
theorem ElsOK.snoc {m ls : List (List Int)} {w w' : World} {els : List KE} {k : Nat} {x : List Int} {v : Int} {Z : Option Addr} {dz : Nat} (h : ElsOK m (ls.take k) w els) (hx : ls[k]? = some x) (hv : v = nrm m x) (hl : x.length ≤ 1099511627776) (hdz : x.length ≤ dz) (hdz2 : dz ≤ 9223372036854775807)
    (hk : ∀ y : KE, y.ok w → y.ok w') (hZ : Ints w' Z 2 .i64 (canonL x)) : ElsOK m (ls.take (k + 1)) w' (els ++ [⟨v, Z, dz, canonL x⟩]) := by
  have e : ls.take (k + 1) = ls.take k ++ [x] := by rw [List.take_add_one, hx]; rfl
  refine ⟨by rw [e, List.map_append, List.map_append, h.lsE]; rfl, by rw [e, List.map_append, List.map_append, h.keyE, hv]; rfl, fun y hy => ?_, fun y hy => ?_⟩
  · rcases List.mem_append.1 hy with hy | hy
    · exact hk y (h.ok y hy)
    · obtain rfl := List.mem_singleton.1 hy
      exact ⟨hZ, by rw [canonL_length]; exact hl⟩
  · rcases List.mem_append.1 hy with hy | hy
    · exact h.cap y hy
    · obtain rfl := List.mem_singleton.1 hy
      exact ⟨by rw [canonL_length]; exact hdz, hdz2⟩
theorem ElsOK.distinct {m ls : List (List Int)} {w : World} {els : List KE} (h : ElsOK m ls w els) (hn : (ls.map canonL).Nodup) : els.Pairwise (fun x y => x.cmp y ≠ 0) := by
  rw [← h.lsE, List.Nodup, List.pairwise_map] at hn
  refine hn.imp ?_
  intro x y hxy h0
  have := lexI_eq _ _ (show lexI (x.key :: x.l) (y.key :: y.l) = 0 from h0)
  injection this with _ h2
  exact hxy h2
theorem sort_call {w1 wr : World} {B : Option Addr} {k cb : Nat} {els : List KE} (hst : wr.heap[w1.heap.size]? = some (.cells #[.slice B k cb, .func (.func 48) #[] #[]] 103 (0, 0))) (hown : Own wr (w1.heap.size + 1) 110 2 B k cb (flatE els)) (hel : els.length = k) (hk : k ≤ 1073741824) (hok : ∀ x ∈ els, x.ok wr) (hd : els.Pairwise (fun x y => x.cmp y ≠ 0)) (hB0 : k = 0 → B = none ∧ cb = 0) (hx : Ext w1 wr) :
    Calls Tryz.prog 53 #[.pointer (some ⟨w1.heap.size, 0, none⟩)] wr fun e w6 => e = .returned (.tuple #[]) ∧ ∃ els', els'.Perm els ∧ els'.Pairwise (fun x y => x.cmp y < 0) ∧ (∀ x ∈ els', x.ok w6) ∧ w6.heap[w1.heap.size]? = some (.cells #[.slice B k cb, .func (.func 48) #[] #[]] 103 (0, 0)) ∧ (0 < k → ∃ g, B = some ⟨g, 0, none⟩ ∧ KRow w6 g els') ∧ Ext w1 w6 := by
  rcases Nat.eq_zero_or_pos k with h0 | h0
  · subst h0
    obtain ⟨rfl, rfl⟩ := hB0 rfl
    have hels : els = [] := List.eq_nil_of_length_eq_zero hel
    subst hels
    refine (sort_nil hst).mono ?_
    rintro e w6 ⟨he, hs⟩
    exact ⟨he, [], List.Perm.refl _, List.Pairwise.nil, fun x hx => absurd hx (by simp), heap_of_ext hs.ext hst, fun h => absurd h (by omega), hx.trans hs.ext⟩
  · obtain ⟨g, rfl, hg, hrow⟩ := KRow.of_own hown h0
    have hgs : g < wr.heap.size := by obtain ⟨cur, h1, _⟩ := hrow; exact lt_of_heap h1
    rw [← hel] at hst
    refine (sort_any hst hrow hok (by omega) hd hgs).mono ?_
    rintro e w6 ⟨he, els', hp⟩
    refine ⟨he, els', hp.perm, hp.sorted, hp.ok, by rw [← hel]; exact hp.st, fun _ => ⟨g, rfl, hp.row (by omega)⟩, ?_⟩
    have := hp.below w1.heap.size (by omega) hx.size
    exact ⟨hx.below.trans this⟩
set_option maxRecDepth 10000 in
set_option maxHeartbeats 4000000 in
theorem SortUnique_ok {w0 w : World} {A X : Option Addr} {c d : Nat} {m ls : List (List Int)} (h : Mat64 w0 A m) (hc : m.length ≤ c) (hc2 : c ≤ 9223372036854775807) (hX : Mat64 w0 X ls) (hl : ls.length ≤ 1073741824) (hm : RedM m) (hv : ∀ x ∈ ls, VecOK m x) (hnd : (ls.map canonL).Nodup) [hx : Ext w0 w] :
    Calls Tryz.prog 28 #[.slice A m.length c, .slice X ls.length d] w (RetSorted w m ls) := by
  have hred := fun W (hxx : Ext w0 W) => IsReduced_any (w := W) h (by have := hm.n8; omega) hc hc2
  rw [hm.red] at hred
  have HR := Lib.hid hred
  have HM := Lib.hid hm
  have HV := Lib.hid hv
  have HND := Lib.hid hnd
  obtain ⟨q, hq⟩ : ∃ q, q = ls.length := ⟨_, rfl⟩
  rw [← hq] at hl ⊢
  have HQ := Lib.hid hq
  clear hred hm hv hnd hq
  go_enter Tryz.func28, Tryz.ntmps28
  go_wp2_with (go_at_call 31; refine (HR.out _ inferInstance).mono ?_; rintro e w1 ⟨rfl, hs1⟩)
  have hx1 : Ext w0 w1 := inferInstance
  go_loopw [8, 9, 10, 11, 12, 22] (fun _ _ _ _ _ i wr => ∃ (k : Nat) (B : Option Addr) (cb : Nat) (els : List KE), k ≤ q ∧ i = .int .i64 k ∧ wr.heap[w1.heap.size]? = some (.cells #[.slice B k cb, .func (.func 48) #[] #[]] 103 (0, 0)) ∧ Own wr (w1.heap.size + 1) 110 2 B k cb (flatE els) ∧ Hid (ElsOK m (ls.take k) wr els) ∧ Hid (k = 0 → B = none ∧ cb = 0) ∧ Ext w1 wr) (fun _ _ _ _ _ i _ => q - (intOf i).toNat)
  case atStart =>
    exact ⟨0, none, 0, [], by omega, rfl, heap_alloc_new w1 _, Own.nil _ _ _ _, Lib.hid ⟨rfl, rfl, fun x hx => absurd hx (by simp), fun x hx => absurd hx (by simp)⟩, Lib.hid (fun _ => ⟨rfl, rfl⟩), inferInstance⟩
  case round =>
    obtain ⟨k, B, cb, els, hk, rfl, hst, hown, HE, HB0, hxr⟩ := hrel
    have hx0r : Ext w0 wr := hx1.trans hxr
    by_cases hlt : k < q
    · have hkl : k < ls.length := by have := HQ.out; omega
      obtain ⟨b, o, XB, cx, rfl, e1, e2, f1, f2, f3⟩ := (hX.ext hx0r).at_ (i := k) (r := ls[k]) (by simp [hkl])
      obtain ⟨x, hxe⟩ : ∃ x, x = ls[k] := ⟨_, rfl⟩
      have hvx := HV.out ls[k] (List.getElem_mem hkl)
      rw [← hxe] at e1 e2 f1 hvx
      have HXE : Hid (ls[k]? = some x) := Lib.hid (by rw [hxe]; simp [hkl])
      have hfit : x.length = m.length ∧ inRangeB x = true := by
        have := hvx.fit
        simpa [fitsB] using this
      have hn8 := HM.out.n8
      have hrng := inRangeB_iff.1 hfit.2
      have e2' := Lib.hid e2
      have hcf := fun W (hh : Ext wr W) => fits_any (w := W) (n := m.length) (c := cx) e2 (by have := hfit.1; omega)
      rw [hvx.fit] at hcf
      have hca := fun W (hh : Ext wr W) => apply_any (w := W) (c := c) (d := cx) (h.ext hx0r) e2 HM.out.all hfit.1 hn8 HM.out.ent hrng
      have hcc := fun W (hh : Ext wr W) => CanonicalSign_any (w := W) (c := cx) e2 (by have := hfit.1; omega)
      rw [hfit.1] at e1 f1 hcf hca hcc
      have hcd := fun (W : World) (Y : Option Addr) (dy : Nat) (hh : Ext wr W) (hY : Ints W Y 2 .i64 (applyL m x)) => dot_any (w0 := W) (w := W) (c := cx) (d := dy) (e2.ext hh) hY (by rw [applyL_length, hfit.1]) (by have := hfit.1; omega) hrng (fun z hz => by
        obtain ⟨r, hr, rfl⟩ := List.mem_map.1 hz
        have hb := dotL_bound (A := 262144) (B := 1099511627776) (by omega) (by omega) r x (HM.out.ent r hr) hrng
        have hrl := HM.out.all r hr
        omega)
      rw [hfit.1] at hcd
      obtain ⟨v, hv⟩ : ∃ v, v = nrm m x := ⟨_, rfl⟩
      have HVE := Lib.hid hv
      have HCF := Lib.hid hcf
      have HCA : Hid (∀ W, Ext wr W → Calls Tryz.prog 51 #[.slice A m.length c, .slice XB m.length cx] W fun e w' => ∃ Y dy, e = .returned (.slice Y m.length dy) ∧ Ints w' Y 2 .i64 (applyL m x) ∧ Step W w') := Lib.hid (fun W hh => (hca W hh).mono (fun e w' ⟨Y, dy, he, hI, _, _, hs⟩ => ⟨Y, dy, by rw [he, applyL_length], hI, hs⟩))
      have HCD : Hid (∀ W Y dy, Ext wr W → Ints W Y 2 .i64 (applyL m x) → Calls Tryz.prog 50 #[.slice XB m.length cx, .slice Y m.length dy] W (RetVal W (.tuple #[.int .i64 v, .bool true]))) := Lib.hid (fun W Y dy hh hY => (hcd W Y dy hh hY).mono (fun e w' ⟨he, hs⟩ => ⟨by
        have e1 : dotL x (applyL m x) = nrm m x := rfl
        rw [he, e1, hvx.nb, hv]; rfl, hs⟩))
      have HCC : Hid (∀ W, Ext wr W → Calls Tryz.prog 52 #[.slice XB m.length cx] W fun e w' => ∃ Z dz, e = .returned (.tuple #[.slice Z m.length dz, .bool true]) ∧ Ints w' Z 2 .i64 (canonL x) ∧ m.length ≤ dz ∧ dz ≤ 9223372036854775807 ∧ Step W w') := Lib.hid (fun W hh => (hcc W hh).mono (fun e w' ⟨hh2, hs⟩ => by
        rcases hh2 with ⟨_, Z, dz, he, hI, z1, z2⟩ | ⟨hf, _⟩
        · exact ⟨Z, dz, by rw [he, hfit.1], hI, by rw [← hfit.1]; exact z1, z2, hs⟩
        · rw [hvx.cb] at hf; cases hf))
      have HFT := Lib.hid hfit
      obtain ⟨s1, s2, s3, s4, s5⟩ := box_cells2 hst
      have HST := Lib.hid hst
      have oS : Old w1.heap.size wr := ⟨s5⟩
      clear hcf hca hcc hcd hvx hfit hrng hxe hst e2 hv
      go_wp2_with (first
        | (go_at_call 49; refine (HCF.out _ inferInstance).mono ?_; rintro e w' ⟨rfl, rfl⟩)
        | (go_at_call 51; refine (HCA.out _ inferInstance).mono ?_; rintro e w2 ⟨Y, dy, rfl, hY, hs2⟩)
        | (go_at_call 50; refine (HCD.out _ Y dy inferInstance hY).mono ?_; rintro e w3 ⟨rfl, hs3⟩)
        | (go_at_call 52; refine (HCC.out _ inferInstance).mono ?_; rintro e w4 ⟨Z, dz, rfl, hZ, z1, z2, hs4⟩)
        | (at_builtin; refine wpList_app _ rfl _ _ 101 rfl (w1.heap.size + 1) 110 (.agg #[.int .i64 0, .slice none 0 0]) 2 32 Tryz.underlying101 infoKeyed rfl (by omega) (by omega) B k cb _ rfl (hown.ext inferInstance) _ 1 1 [.int .i64 v, .slice Z m.length dz] rfl (Arr.new w4 110 #[.int .i64 v, .slice Z m.length dz]) (by simp) (by simp [Value.oneCell']) (by omega) (by have := hs4.size; have := hs3.size; have := hs2.size; simp at *; omega) ?_; intro A5 d5 w5 hown5 hg5; have hb5 := hg5.heap (heap_of_ext (inferInstance : Ext wr (w4.alloc (Obj.cells #[Value.int .i64 v, Value.slice Z m.length dz] 110))) HST.out) (by decide); obtain ⟨q1, q2, q3, q4, q5⟩ := box_cells2 hb5; have HB5 := Lib.hid hb5; clear hb5))
      have hoS := Oth.set (p := ⟨w1.heap.size, 0, none⟩) HB5.out (.slice A5 (k + 1) d5)
      have hxw : Ext wr (w4.alloc (Obj.cells #[Value.int .i64 v, Value.slice Z m.length dz] 110)) := inferInstance
      have hft := HFT.out.1
      refine ⟨⟨k + 1, A5, d5, els ++ [⟨v, Z, dz, canonL x⟩], by omega, by go_num, box_set2_0 HB5.out, ?_, ?_, Lib.hid (fun h0 => absurd h0 (by omega)), ?_⟩, by simp [intOf] <;> omega⟩
      · rw [flatE_snoc]
        dsimp only
        rw [canonL_length, hft]
        exact hown5.oth hoS (by decide)
      · refine Lib.hid (HE.out.snoc HXE.out HVE.out (by omega) (by omega) z2 (fun y hy => ⟨((hy.1.ext hxw).grow hg5 (by decide)).oth hoS (by decide), hy.2⟩) ?_)
        exact ((hZ.ext inferInstance).grow hg5 (by decide)).oth hoS (by decide)
      · exact (hg5.ext (Ext.trans hxr hxw) (Nat.le_succ _)).setCell (p := ⟨w1.heap.size, 0, none⟩) (Nat.le_refl _) _
    · obtain rfl : k = q := by omega
      clear hlt
      have htk : ls.take k = ls := List.take_of_length_le (by have := HQ.out; omega)
      rw [htk] at HE
      have hel : els.length = k := by rw [HE.out.len, ← HQ.out]
      clear htk
      have hsc := sort_call hst hown hel (by omega) HE.out.ok (HE.out.distinct HND.out) HB0.out hxr
      have HSC := Lib.hid hsc
      have hmk := run_make_any (P := Tryz.prog) Tryz.underlying23 infoSlI64 (by omega) (k : Int) (by omega) (by omega)
      clear hsc hst
      go_wp2_with (go_at_call 53; refine HSC.out.mono ?_; clear HSC; rintro e w6 ⟨rfl, els', hp, hso, hok, hst6, hrow6, hx6⟩; obtain ⟨t1, t2, t3, t4, t5⟩ := box_cells2 hst6; have HP := Lib.hid hp; have HSO := Lib.hid hso; have HOK := Lib.hid hok; have HROW := Lib.hid hrow6; have HST6 := Lib.hid hst6; clear hp hso hok hrow6 hst6; have oS6 : Old w1.heap.size w6 := ⟨t5⟩)
      have hlen' : els'.length = k := by rw [HP.out.length_eq, hel]
      have HLEN := Lib.hid hlen'
      have hxw6 : Ext w w6 := Ext.trans hs1.ext hx6
      clear hlen' hown hel
      go_loopw [14, 15, 67] (fun _ _ i wr => ∃ (j : Nat) (hd : List Value), j ≤ k ∧ i = .int .i64 j ∧ VRow wr w6.heap.size 22 hd ∧ Hid (hd.length = k) ∧ Hid (∀ i, i < j → ∃ x, els'[i]? = some x ∧ hd[i]? = some (.slice x.A x.l.length x.c)) ∧ Ext w6 wr) (fun _ _ i _ => k - (intOf i).toNat)
      case atStart =>
        refine ⟨0, _, by omega, rfl, VRow.new w6 _ _, Lib.hid ?_, Lib.hid (fun i hi => absurd hi (by omega)), inferInstance⟩
        exact mkCells_size _ _
      case round =>
        obtain ⟨j, hd, hj, rfl, hV, HHL, HHD, hxj⟩ := hrel
        by_cases hlt : j < k
        · obtain ⟨x, hx⟩ : ∃ x, els'[j]? = some x := ⟨_, List.getElem?_eq_getElem (by have := HLEN.out; omega)⟩
          obtain ⟨g, rfl, hrow⟩ := HROW.out (by omega)
          obtain ⟨c1, c2, c3⟩ := (hrow.ext hxj).cells hx
          obtain ⟨u0, hu0⟩ : ∃ u0, hd[j]? = some u0 := ⟨_, List.getElem?_eq_getElem (by have := HHL.out; omega)⟩
          have r1 := hV.cell hu0
          have r2 := hV.frozen j
          have r3 := hV.lt
          have HX := Lib.hid hx
          have oG : Old g wr := ⟨c3⟩
          have oR : Old w6.heap.size wr := ⟨r3⟩
          clear hx hu0
          go_wp2
          have hhl := HHL.out
          refine ⟨⟨j + 1, hd.set j (.slice x.A x.l.length x.c), by omega, by go_num, ?_, Lib.hid (by rw [List.length_set]; exact HHL.out), Lib.hid (fun i hi => ?_), ?_⟩, by simp [intOf] <;> omega⟩
          · exact (hV.set j _).ext inferInstance
          · rcases Nat.lt_or_ge i j with h' | h'
            · obtain ⟨y, y1, y2⟩ := HHD.out i h'
              exact ⟨y, y1, by rw [List.getElem?_set_ne (by omega)]; exact y2⟩
            · obtain rfl : i = j := by omega
              exact ⟨x, HX.out, by rw [List.getElem?_set_self (by omega)]⟩
          · exact Ext.trans (hxj.setCell (p := ⟨w6.heap.size, j, none⟩) (Nat.le_refl _) (.slice x.A x.l.length x.c)) inferInstance
        · obtain rfl : j = k := by omega
          clear hlt
          go_wp2
          go_ret2
          have hml : (els'.map KE.l).length = j := by rw [List.length_map]; exact HLEN.out
          refine ⟨some ⟨w6.heap.size, 0, none⟩, j, els'.map KE.l, by rw [hml]; rfl, ?_, by omega, by omega, ?_, ?_, (hxw6.trans hxj).toStep⟩
          · refine ⟨hd, by rw [hml]; exact HHL.out, hV.arr, fun i r hr => ?_⟩
            have hi : i < j := by
              have := (List.getElem?_eq_some_iff.1 hr).1
              omega
            obtain ⟨x, hx, hh⟩ := HHD.out i hi
            rw [List.getElem?_map, hx] at hr
            simp at hr
            subst hr
            have hokx := HOK.out x (List.mem_of_getElem? hx)
            have hcap := HE.out.cap x (HP.out.mem_iff.1 (List.mem_of_getElem? hx))
            exact ⟨x.A, x.c, hh, hokx.1.ext hxj, hcap.1, hcap.2⟩
          · rw [← HE.out.lsE]
            exact HP.out.map _
          · rw [List.pairwise_map]
            refine List.Pairwise.imp_of_mem ?_ HSO.out
            intro x y hx hy hxy
            have key : ∀ z ∈ els', z.key = nrm m z.l := fun z hz => by
              have hz' := HP.out.mem_iff.1 hz
              obtain ⟨i, hi, rfl⟩ := List.getElem_of_mem hz'
              have a1 := congrArg (fun t => t[i]?) HE.out.lsE
              have a2 := congrArg (fun t => t[i]?) HE.out.keyE
              simp only [List.getElem?_map, List.getElem?_eq_getElem hi] at a1 a2
              cases hq : ls[i]? with
              | none => rw [hq] at a1; cases a1
              | some y =>
                rw [hq] at a1 a2
                simp at a1 a2
                rw [a1, a2, nrm_canon]
            show cmpK (nrm m x.l) (nrm m y.l) x.l y.l < 0
            rw [← key x hx, ← key y hy]
            exact hxy
end Go.Proofs.YtaaldapmkhamlaaGreat

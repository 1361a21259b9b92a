/-
  The contract of the sorter of the package vector.
-/
import Derived.Test.YtaaldapmkhamlaaGreatVec8
namespace Go.Proofs.YtaaldapmkhamlaaGreat
open Go.RowKit
theorem Perm.pairwise_ne {els els' : List KE} (hp : els'.Perm els) (h : els.Pairwise (fun x y => x.cmp y ≠ 0)) : els'.Pairwise (fun x y => x.cmp y ≠ 0) :=
  (hp.pairwise_iff (fun {x y} hxy h0 => hxy (by
    have e := lexI_anti (y.key :: y.l) (x.key :: x.l)
    have e2 : y.cmp x = lexI (y.key :: y.l) (x.key :: x.l) := rfl
    have e3 : x.cmp y = lexI (x.key :: x.l) (y.key :: y.l) := rfl
    rw [e3, e, ← e2, h0]; rfl))).2 h
theorem cmp_anti (x y : KE) : y.cmp x = -x.cmp y := lexI_anti (x.key :: x.l) (y.key :: y.l)
theorem Same.cell {g b o : Nat} {w w' : World} (h : Same g w w') (hb : b < w.heap.size) (hne : b ≠ g) : w'.cell? ⟨b, o, none⟩ = w.cell? ⟨b, o, none⟩ := World.cell?_of_block (h.1 b hb hne)
/-- What sort leaves. -/
structure SortPost (w w' : World) (sb g : Nat) (A : Option Addr) (c : Nat) (els els' : List KE) : Prop where
  perm : els'.Perm els
  sorted : els'.Pairwise (fun x y => x.cmp y < 0)
  row : 0 < els.length → KRow w' g els'
  ok : ∀ x ∈ els', x.ok w'
  st : w'.heap[sb]? = some (.cells #[.slice A els.length c, .func (.func 48) #[] #[]] 103 (0, 0))
  keep : ∀ b, b < w.heap.size → b ≠ g → w'.heap[b]? = w.heap[b]?
  below : ∀ B, B ≤ g → B ≤ w.heap.size → Below B w w'
set_option maxHeartbeats 2000000 in
theorem sort_any {w : World} {sb g c : Nat} {els : List KE} (hst : w.heap[sb]? = some (.cells #[.slice (some ⟨g, 0, none⟩) els.length c, .func (.func 48) #[] #[]] 103 (0, 0))) (hrow : KRow w g els) (hok : ∀ x ∈ els, x.ok w) (hn : els.length ≤ 1099511627776) (hd : els.Pairwise (fun x y => x.cmp y ≠ 0)) (hg : g < w.heap.size) :
    Calls Tryz.prog 53 #[.pointer (some ⟨sb, 0, none⟩)] w fun e w' => e = .returned (.tuple #[]) ∧ ∃ els', SortPost w w' sb g (some ⟨g, 0, none⟩) c els els' := by
  have hsb := lt_of_heap hst
  have hgs : sb ≠ g := by
    rintro rfl
    obtain ⟨cur, h1, -⟩ := hrow
    rw [hst] at h1
    injection h1 with h1
    injection h1 with _ he
    exact absurd he (by decide)
  obtain ⟨s1, s2, s3, s4, -⟩ := box_cells2 hst
  have HST := Lib.hid hst
  obtain ⟨n, hN⟩ : ∃ n, n = els.length := ⟨_, rfl⟩
  have HN := Lib.hid hN
  have hsort := fun W (hh : Ext w W) => SortK_any (w := W) (cap := c) (hrow.ext hh) (fun x hx => (hok x hx).ext hh) (by omega)
  rw [← hN] at hsort s1
  have HSO := Lib.hid hsort
  have HD := Lib.hid hd
  have oS : Old sb w := ⟨hsb⟩
  clear hsort hN hst hd hok
  go_enter Tryz.func53, Tryz.ntmps53
  go_wp2_with fail
  go_region_held3 (fun w' => w'.cell? ⟨w.heap.size, 0, none⟩ = some (.pointer (some ⟨sb, 0, none⟩)) ∧ w'.cell? ⟨sb, 0, none⟩ = some (.slice (some ⟨g, 0, none⟩) n c) ∧ w'.cell? ⟨sb, 1, none⟩ = some (.func (.func 48) #[] #[])) (first | assumption | (simp [go_sem, s1, s2]))
    (first
      | (go_at_call 95; refine (HSO.out _ inferInstance).mono ?_; rintro e w2 ⟨rfl, els', hp, hso, hr2, hok2, hsame⟩; (have hS2 : w2.cell? ⟨w.heap.size, 0, none⟩ = some (.pointer (some ⟨sb, 0, none⟩)) ∧ w2.cell? ⟨sb, 0, none⟩ = some (.slice (some ⟨g, 0, none⟩) n c) ∧ w2.cell? ⟨sb, 1, none⟩ = some (.func (.func 48) #[] #[]) := ⟨(hsame.cell (by simp) (by omega)).trans (by simp [go_sem]), (hsame.cell (by simp; omega) hgs).trans (by simp [go_sem, s1]), (hsame.cell (by simp; omega) hgs).trans (by simp [go_sem, s2])⟩)))
  have hlen : els'.length = els.length := hp.length_eq
  have hne := Perm.pairwise_ne hp HD.out
  have hz : w.heap.size < w2.heap.size := by have := (hsame.2 0 (Nat.zero_le _)).size; simp at this; omega
  have hstr : els'.Pairwise (fun x y => x.cmp y < 0) := by
    refine (hso.and hne).imp ?_
    rintro x y ⟨h1, h2⟩
    have := cmp_anti x y
    omega
  have hst2 : w2.heap[sb]? = some (.cells #[.slice (some ⟨g, 0, none⟩) els.length c, .func (.func 48) #[] #[]] 103 (0, 0)) := (hsame.1 sb (by simp; omega) hgs).trans (heap_of_ext (w := w) inferInstance HST.out)
  obtain ⟨p1, p2, p3⟩ := hS2
  have f1 : w2.frozen? ⟨sb, 0, none⟩ = false := (box_cells2 hst2).2.2.1
  have hsb2 : sb < w2.heap.size := by omega
  have hcomp := fun W (hh : Ext w2 W) => CompactK_any (w := W) (pb := w.heap.size) (sb := sb) (cap := c) (hr2.ext hh) (fun x hx => (hok2 x hx).ext hh) (by omega) (fun i x y h1 h2 => by
      have hi := (List.getElem?_eq_some_iff.1 h2).1
      have := (List.pairwise_iff_getElem.1 hne) i (i + 1) (by omega) hi (by omega)
      rw [(List.getElem?_eq_some_iff.1 h1).2, (List.getElem?_eq_some_iff.1 h2).2] at this
      have e := cmp_anti x y
      simp; omega) ((hh.below.cell (p := ⟨w.heap.size, 0, none⟩) hz).trans p1) ((hh.below.cell (p := ⟨sb, 1, none⟩) hsb2).trans p3) (Nat.lt_of_lt_of_le hz hh.size) (Nat.lt_of_lt_of_le hsb2 hh.size)
  rw [hlen, ← HN.out] at hcomp
  have HCO := Lib.hid hcomp
  have oP2 : Old w.heap.size w2 := ⟨hz⟩
  have oS2 : Old sb w2 := ⟨hsb2⟩
  have HP := Lib.hid hp
  have HSTR := Lib.hid hstr
  have HR2 := Lib.hid hr2
  have HOK2 := Lib.hid hok2
  have HSA := Lib.hid hsame
  have HST2 := Lib.hid hst2
  clear hp hso hr2 hok2 hsame hne hstr hst2 hcomp hlen HD HSO
  go_wp2_with fail
  go_region_held3 (fun w' => w'.cell? ⟨w.heap.size, 0, none⟩ = some (.pointer (some ⟨sb, 0, none⟩)) ∧ w'.cell? ⟨sb, 0, none⟩ = some (.slice (some ⟨g, 0, none⟩) n c)) (first | exact ⟨p1, p2⟩ | (rw [setCell_same hC3]; simp only [cellE w2]; exact ⟨p1, p2⟩) | (simp only [cellE w2]; exact ⟨p1, p2⟩))
    (first
      | (go_at_call 96; refine (HCO.out _ inferInstance).mono ?_; rintro e w3 ⟨rfl, hs3⟩; (have hF3 : w3.frozen? ⟨sb, 0, none⟩ = false := (box_cells2 (heap_of_ext (Ext.trans inferInstance hs3.ext) HST2.out)).2.2.1); (have hC3 : w3.cell? ⟨sb, 0, none⟩ = some (.slice (some ⟨g, 0, none⟩) n c) := by rw [HN.out]; exact (box_cells2 (heap_of_ext (Ext.trans inferInstance hs3.ext) HST2.out)).1)))
  rw [setCell_same hC3]
  go_wp2
  go_end0
  have hx3 : Ext w2 w3 := Ext.trans inferInstance hs3.ext
  have hsw : w.heap.size ≤ w2.heap.size := by omega
  refine ⟨rfl, els', HP.out, HSTR.out, fun _ => HR2.out.ext hx3, fun x hx => (HOK2.out x hx).ext hx3, heap_of_ext hx3 HST2.out, fun b hb hbg => ?_, fun B hB hBw => ?_⟩
  · rw [hx3.below.block b (by omega), HSA.out.1 b (by simp; omega) hbg]
    exact Below.heap_alloc w _ b hb
  · have h1 := HSA.out.2 B hB
    have h2 : Below B w (w.alloc (.cells #[.pointer (some ⟨sb, 0, none⟩)] 172)).drew := ((Below.refl _ _).alloc hBw _).drew
    exact (h2.trans h1).trans (hx3.below.mono (by omega))
theorem CompactK_nil {w : World} (fv : Value) : Calls Tryz.prog 96 #[.slice none 0 0, fv] w (RetVal w (.slice none 0 0)) := by
  go_enter Tryz.func96, Tryz.ntmps96
  go_wp2
  go_ret
  exact ⟨rfl, Step.of _ _⟩
set_option maxHeartbeats 1000000 in
theorem sort_nil {w : World} {sb : Nat} (hst : w.heap[sb]? = some (.cells #[.slice none 0 0, .func (.func 48) #[] #[]] 103 (0, 0))) :
    Calls Tryz.prog 53 #[.pointer (some ⟨sb, 0, none⟩)] w (RetVal w (.tuple #[])) := by
  have hsb := lt_of_heap hst
  obtain ⟨s1, s2, s3, s4, -⟩ := box_cells2 hst
  have HST := Lib.hid hst
  have hsort := fun W => AnyF.slices_SortFunc_none (P := Tryz.prog) Tryz.laysSort none 0 (.func (.func 48) #[] #[]) W
  have hsort2 : ∀ W, Calls Tryz.prog 95 #[.slice none 0 0, .func (.func 48) #[] #[]] W fun e w' => e = .returned (.tuple #[]) ∧ w' = W := hsort
  have HSO := Lib.hid hsort2
  have oS : Old sb w := ⟨hsb⟩
  clear hsort hsort2 hst
  go_enter Tryz.func53, Tryz.ntmps53
  go_wp2_with fail
  go_region_held3 (fun w' => w'.cell? ⟨w.heap.size, 0, none⟩ = some (.pointer (some ⟨sb, 0, none⟩)) ∧ w'.cell? ⟨sb, 0, none⟩ = some (.slice none 0 0) ∧ w'.cell? ⟨sb, 1, none⟩ = some (.func (.func 48) #[] #[])) (first | assumption | (simp [go_sem, s1, s2]))
    (first | (go_at_call 95; refine (HSO.out _).mono ?_; rintro e w2 ⟨rfl, rfl⟩))
  obtain ⟨W, hW⟩ : ∃ W, W = (w.alloc (.cells #[.pointer (some ⟨sb, 0, none⟩)] 172)).drew := ⟨_, rfl⟩
  have hxW : Ext w W := by rw [hW]; exact inferInstance
  have p0 : W.heap[sb]? = _ := heap_of_ext hxW HST.out
  have p1 : W.cell? ⟨w.heap.size, 0, none⟩ = some (.pointer (some ⟨sb, 0, none⟩)) := by rw [hW]; simp [go_sem]
  obtain ⟨p2, p3, p4, -, p5⟩ := box_cells2 p0
  have p6 : w.heap.size < W.heap.size := by rw [hW]; simp
  have HP0 := Lib.hid p0
  have oP2 : Old w.heap.size W := ⟨p6⟩
  have oS2 : Old sb W := ⟨p5⟩
  rw [← hW]
  clear hW p0
  go_wp2_with fail
  go_region_held3 (fun w' => w'.cell? ⟨w.heap.size, 0, none⟩ = some (.pointer (some ⟨sb, 0, none⟩)) ∧ w'.cell? ⟨sb, 0, none⟩ = some (.slice none 0 0)) (first | exact ⟨p1, p2⟩ | (rw [setCell_same hC3]; simp only [cellE W]; exact ⟨p1, p2⟩) | (simp only [cellE W]; exact ⟨p1, p2⟩))
    (first
      | (go_at_call 96; refine (CompactK_nil _).mono ?_; rintro e w3 ⟨rfl, hs3⟩; (have hF3 : w3.frozen? ⟨sb, 0, none⟩ = false := (box_cells2 (heap_of_ext (Ext.trans inferInstance hs3.ext) HP0.out)).2.2.1); (have hC3 : w3.cell? ⟨sb, 0, none⟩ = some (.slice none 0 0) := (box_cells2 (heap_of_ext (Ext.trans inferInstance hs3.ext) HP0.out)).1)))
  rw [setCell_same hC3]
  go_wp2
  go_end0
  exact ⟨rfl, (hxW.trans (Ext.trans inferInstance hs3.ext)).toStep⟩
end Go.Proofs.YtaaldapmkhamlaaGreat

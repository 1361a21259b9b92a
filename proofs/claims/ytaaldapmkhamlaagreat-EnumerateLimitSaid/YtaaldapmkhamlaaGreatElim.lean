/-
  The contract of eliminate of the package schur.
-/
import Derived.Test.YtaaldapmkhamlaaGreatApp2
namespace Go.Proofs.YtaaldapmkhamlaaGreat
open Go.RowKit
def RetElim (w : World) (m : List (List Int)) (e : Ending) (w' : World) : Prop := ∃ A c B d, e = .returned (.agg #[.slice A m.length c, .slice B (m.length + 1) d]) ∧ StV w' A (stagesOf m) ∧ IntsV w' B (minorsTo m m.length) ∧ m.length ≤ c ∧ c ≤ 9223372036854775807 ∧ m.length + 1 ≤ d ∧ d ≤ 9223372036854775807 ∧ Step w w'
set_option maxHeartbeats 1000000 in
theorem eliminate_any {w0 w : World} {A : Option Addr} {c : Nat} {m : List (List Int)} (h : Mat64 w0 A m) (h1 : 1 ≤ m.length) (h8 : m.length ≤ 8) (hn : AllLen m m.length) (hF : Fits64 m) (hok : ElimOK m) [hx : Ext w0 w] :
    Calls Tryz.prog 83 #[.slice A m.length c] w (RetElim w m) := by
  have HN := Lib.hid hn
  have HOK := Lib.hid hok
  have HFI := Lib.hid hF
  clear hn hok hF
  go_enter Tryz.func83, Tryz.ntmps83
  go_wp2_with (first | (go_at_call 98; refine (FromInts_ok h m.length h1 (by omega) h1 (by omega) HN.out HFI.out).mono ?_; rintro e w1 ⟨A1, c1, rfl, hM, k1, k2, hs1⟩) | (go_at_call 99; refine (Stages_ok hM h1 (by omega) HN.out HOK.out).mono ?_; rintro e w2 ⟨A2, c2, rfl, hS, k3, k4, hs2⟩) | (go_at_call 125; refine (Small_any 1 (by omega) (by omega) _).mono ?_; rintro e w3 ⟨g3, B3, n3, d3, rfl, hI, hs3⟩))
  have hsl : (stagesOf m).length = m.length := by simp [stagesOf]
  rw [hsl]
  have HSL := Lib.hid hsl
  clear hsl
  have hx3 : Ext w2 w3 := inferInstance
  obtain ⟨b, o, -, -, -, -, -, -, rfl, -⟩ := StV.rowAt hS HN.out (k := 0) (by omega)
  have hown0 : Own ((w3.alloc (.cells #[.bool g3, .slice B3 n3 d3] 158)).alloc (.cells #[.slice (some ⟨b, o, none⟩) m.length c2, .slice (some ⟨w3.heap.size, 0, none⟩) 1 1] 154)) w3.heap.size 158 2 (some ⟨w3.heap.size, 0, none⟩) 1 1 [.bool g3, .slice B3 n3 d3] := (Own.new w3 158 2 1 #[.bool g3, .slice B3 n3 d3] rfl (by omega)).ext inferInstance
  go_loopw [9, 26] (fun _ i wr => ∃ (k : Nat) (B : Option Addr) (d : Nat) (vs : List Value), k ≤ m.length ∧ i = .int .i64 k ∧ wr.heap[w3.heap.size + 1]? = some (.cells #[.slice (some ⟨b, o, none⟩) m.length c2, .slice B (k + 1) d] 154 (0, 0)) ∧ Own wr w3.heap.size 158 2 B (k + 1) d vs ∧ Hid (VsOf w3 vs (minorsTo m k)) ∧ Ext w3 wr) (fun _ i _ => m.length - (intOf i).toNat)
  case atStart =>
    refine ⟨0, _, _, _, by omega, rfl, ?_, hown0, Lib.hid (VsOf.one hI), inferInstance⟩
    · have := heap_alloc_new (w3.alloc (.cells #[.bool g3, .slice B3 n3 d3] 158)) (.cells #[.slice (some ⟨b, o, none⟩) m.length c2, .slice (some ⟨w3.heap.size, 0, none⟩) 1 1] 154)
      simpa using this
  case round =>
    obtain ⟨k, B, d, vs, hk, rfl, hbox, hown, HZ, hxr⟩ := hrel
    by_cases hlt : k < m.length
    · obtain ⟨b', o', b1, o1, c1', b2, o2, c2', hA, l1, l2, l3, l4, L5, L6⟩ := StV.rowAt hS HN.out hlt
      injection hA with hA
      injection hA with x1 x2
      subst x1 x2
      obtain ⟨g, B', n', c', hV, L7⟩ := L6 0 (by omega)
      obtain ⟨p1, p2, p3, p4, p5⟩ := L5 wr (Ext.trans hx3 hxr)
      obtain ⟨p6, p7⟩ := L7 wr (Ext.trans hx3 hxr)
      simp only [Nat.zero_mul, Nat.add_zero] at p6 p7
      have L7' := Lib.hid L7
      have hk1 : 1 ≤ m.length - k := by omega
      obtain ⟨r, hr⟩ : ∃ r, r = m.length - k := ⟨_, rfl⟩
      rw [← hr] at p1 p2 hk1 l1 l3
      have HR := Lib.hid hr
      have hr0 : 0 < r := by omega
      clear L5 L6 L7 hr
      have hc1 : wr.cell? ⟨w3.heap.size + 1, 0, none⟩ = some (.slice (some ⟨b, o, none⟩) m.length c2) := by simp [World.cell?, hbox]
      have hc2 : wr.cell? ⟨w3.heap.size + 1, 1, none⟩ = some (.slice B (k + 1) d) := by simp [World.cell?, hbox]
      have hf2 : wr.frozen? ⟨w3.heap.size + 1, 1, none⟩ = false := by simp [World.frozen?, hbox]
      have hsz : w3.heap.size + 1 < wr.heap.size := lt_of_heap hbox
      have hB := Lib.hid hbox
      clear hbox
      go_wp2
      go_region_law ((refine step_app _ rfl (.tmp 31) (.tmp 37) 152 rfl w3.heap.size 158 (.agg #[.bool false, .slice none 0 0]) 2 32 Tryz.underlying152 infoInt rfl (by decide) (by decide) B (k + 1) d vs (by simp [Act.eval]) (hown.ext inferInstance) (some ⟨wr.heap.size, 0, none⟩) 1 1 [.bool g, .slice B' n' c'] (by simp [Act.eval]) ((Arr.new wr 158 #[.bool g, .slice B' n' c']).ext inferInstance) rfl (by simp [Value.oneCell']) (by omega) (by simp <;> omega) ?_); intro A1 d1 w4 hown4 hg4; have hb4 := hg4.heap (heap_of_ext (inferInstance : Ext wr ((wr.alloc (Obj.cells #[Value.bool g, Value.slice B' n' c'] 158)).drew)) hB.out) (by decide); have hc4 : w4.cell? ⟨w3.heap.size + 1, 1, none⟩ = some (.slice B (k + 1) d) := (by simp [World.cell?, hb4]); have hf4 : w4.frozen? ⟨w3.heap.size + 1, 1, none⟩ = false := (by simp [World.frozen?, hb4]); have hs4 : w3.heap.size + 1 < w4.heap.size := lt_of_heap hb4; have HB4 := Lib.hid hb4; clear hb4)
      all_goals
        go_wp2
        refine ⟨⟨k + 1, A1, d1, vs ++ [.bool g, .slice B' n' c'], by omega, by go_num, ?_, ?_, ?_, ?_⟩, by simp [intOf] <;> omega⟩
        · rw [box_set2_1 HB4.out]
        · exact hown4.far (p := ⟨w3.heap.size + 1, 1, none⟩) HB4.out (by decide) _
        · rw [minorsTo_succ]
          exact Lib.hid (VsOf.snoc HZ.out (by rw [minorsTo_length]; exact hown.len) (hV.ext hx3))
        · exact (hg4.ext inferInstance (Nat.le_refl _)).setCell (p := ⟨w3.heap.size + 1, 1, none⟩) (Nat.le_succ _) _
    · obtain rfl : k = m.length := by omega
      clear hlt
      obtain ⟨hc1, hc2, -, -, hsz⟩ := box_cells2 hbox
      have hr1 : wr.heap[w.heap.size]? = some (.cells #[.slice none 0 0, .slice none 0 0] 154 (0, 0)) := heap_of_ext (Ext.trans (Ext.trans (hs1.ext) (hs2.ext)) (Ext.trans hs3.ext hxr)) (heap_alloc_new w _)
      obtain ⟨r1, r2, r3, r4, r5⟩ := box_cells2 hr1
      have HB := Lib.hid hbox
      have HR := Lib.hid hr1
      clear hbox hr1
      go_wp2
      refine bodyPost_ret (v := .agg #[.slice (some ⟨b, o, none⟩) m.length c2, .slice B (m.length + 1) d]) (by simp [results, Tryz.results83, go_sem, r1, r2]) rfl ⟨_, _, _, _, rfl, ?_, ?_, by have := HSL.out; omega, k4, hown.cap.1, hown.cap.2, ?_⟩
      · exact (hS.ext (Ext.trans hx3 hxr)).oth (Oth.set2 HR.out 0 1 _ _) (by decide) (by decide) (by decide) (by decide)
      · exact (HZ.out.intsV (by rw [minorsTo_length]; exact hown.len) hown.arr hxr).oth (Oth.set2 HR.out 0 1 _ _) (by decide) (by decide)
      · have hxw : Ext w wr := Ext.trans (Ext.trans (Ext.trans (inferInstance : Ext w (w.alloc (.cells #[.slice none 0 0, .slice none 0 0] 154))) hs1.ext) hs2.ext) (Ext.trans hs3.ext hxr)
        exact ((hxw.setCell (p := ⟨w.heap.size, 0, none⟩) (Nat.le_refl _) _).setCell (p := ⟨w.heap.size, 1, none⟩) (Nat.le_refl _) _).toStep
end Go.Proofs.YtaaldapmkhamlaaGreat

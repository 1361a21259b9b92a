/-
  Contract of bareiss.cross, for numbers below 2^64.
-/
import Derived.Test.YtaaldapmkhamlaaGreatBar
import Derived.Deep.DeepCutAuto
namespace Go.Proofs.YtaaldapmkhamlaaGreat
open Go.RowKit
theorem boxes5 (w w' : World) (x0 y0 x1 y1 x2 y2 x3 y3 x4 y4 x5 y5 : Value) (T : TypeId) [h : Ext ((((((w.alloc (.cells #[x0, y0] T)).alloc (.cells #[x1, y1] T)).alloc (.cells #[x2, y2] T)).alloc (.cells #[x3, y3] T)).alloc (.cells #[x4, y4] T)).alloc (.cells #[x5, y5] T)) w'] :
    w'.cell? ⟨w.heap.size, 0, none⟩ = some x0 ∧ w'.cell? ⟨w.heap.size, 1, none⟩ = some y0 ∧ w'.cell? ⟨w.heap.size + 1, 0, none⟩ = some x1 ∧ w'.cell? ⟨w.heap.size + 1, 1, none⟩ = some y1 ∧
    w'.cell? ⟨w.heap.size + 1 + 1, 0, none⟩ = some x2 ∧ w'.cell? ⟨w.heap.size + 1 + 1, 1, none⟩ = some y2 ∧ w'.cell? ⟨w.heap.size + 1 + 1 + 1, 0, none⟩ = some x3 ∧ w'.cell? ⟨w.heap.size + 1 + 1 + 1, 1, none⟩ = some y3 ∧
    w'.cell? ⟨w.heap.size + 1 + 1 + 1 + 1, 0, none⟩ = some x4 ∧ w'.cell? ⟨w.heap.size + 1 + 1 + 1 + 1, 1, none⟩ = some y4 := by
  have e1 : Ext (w.alloc (.cells #[x0, y0] T)) w' := Ext.trans inferInstance h
  have e2 : Ext ((w.alloc (.cells #[x0, y0] T)).alloc (.cells #[x1, y1] T)) w' := Ext.trans inferInstance h
  have e3 : Ext (((w.alloc (.cells #[x0, y0] T)).alloc (.cells #[x1, y1] T)).alloc (.cells #[x2, y2] T)) w' := Ext.trans inferInstance h
  have e4 : Ext ((((w.alloc (.cells #[x0, y0] T)).alloc (.cells #[x1, y1] T)).alloc (.cells #[x2, y2] T)).alloc (.cells #[x3, y3] T)) w' := Ext.trans inferInstance h
  have e5 : Ext (((((w.alloc (.cells #[x0, y0] T)).alloc (.cells #[x1, y1] T)).alloc (.cells #[x2, y2] T)).alloc (.cells #[x3, y3] T)).alloc (.cells #[x4, y4] T)) w' := Ext.trans inferInstance h
  obtain ⟨_, a1, a2, _⟩ := box2 w w' x0 y0 T
  obtain ⟨_, b1, b2, _⟩ := box2At (w.alloc (.cells #[x0, y0] T)) w' (w.heap.size + 1) x1 y1 T (by simp)
  obtain ⟨_, c1, c2, _⟩ := box2At ((w.alloc (.cells #[x0, y0] T)).alloc (.cells #[x1, y1] T)) w' (w.heap.size + 1 + 1) x2 y2 T (by simp)
  obtain ⟨_, d1, d2, _⟩ := box2At (((w.alloc (.cells #[x0, y0] T)).alloc (.cells #[x1, y1] T)).alloc (.cells #[x2, y2] T)) w' (w.heap.size + 1 + 1 + 1) x3 y3 T (by simp)
  obtain ⟨_, f1, f2, _⟩ := box2At ((((w.alloc (.cells #[x0, y0] T)).alloc (.cells #[x1, y1] T)).alloc (.cells #[x2, y2] T)).alloc (.cells #[x3, y3] T)) w' (w.heap.size + 1 + 1 + 1 + 1) x4 y4 T (by simp)
  exact ⟨a1, a2, b1, b2, c1, c2, d1, d2, f1, f2⟩

set_option maxRecDepth 10000 in
set_option maxHeartbeats 1000000 in
theorem cross_small {wa wb wc wd we w : World} {na nb nc nd ne : Bool} {A B C D E : Option Addr} {ka kb kc kd ke ca cb cc cd ce : Nat} {a b c d v : Int}
    (ha : IntV wa na A ka ca a) (hb : IntV wb nb B kb cb b) (hc : IntV wc nc C kc cc c) (hd : IntV wd nd D kd cd d) (he : IntV we ne E ke ce v)
    (ba : a.natAbs < 18446744073709551616) (bb : b.natAbs < 18446744073709551616) (bc : c.natAbs < 18446744073709551616) (bd : d.natAbs < 18446744073709551616) (b1 : (a * d).natAbs < 18446744073709551616) (b2 : (b * c).natAbs < 18446744073709551616)
    (b3 : (a * d - b * c).natAbs < 18446744073709551616) (hv : v ≠ 0) (bv : v.natAbs < 18446744073709551616) [xa : Ext wa w] [xb : Ext wb w] [xc : Ext wc w] [xd : Ext wd w] [xe : Ext we w] :
    Calls Tryz.prog 142 #[.agg #[.bool na, .slice A ka ca], .agg #[.bool nb, .slice B kb cb], .agg #[.bool nc, .slice C kc cc], .agg #[.bool nd, .slice D kd cd], .agg #[.bool ne, .slice E ke ce]] w (RetInt w ((a * d - b * c) / v)) := by
  have la := ha.len2 ba
  have lb := hb.len2 bb
  have lc := hc.len2 bc
  have ld := hd.len2 bd
  go_enter Tryz.func142, Tryz.ntmps142
  go_upto_region 1 with fail
  have hst : Step w ((((((w.alloc (.cells #[.bool na, .slice A ka ca] 158)).alloc (.cells #[.bool nb, .slice B kb cb] 158)).alloc (.cells #[.bool nc, .slice C kc cc] 158)).alloc (.cells #[.bool nd, .slice D kd cd] 158)).alloc (.cells #[.bool ne, .slice E ke ce] 158)).alloc (.cells #[.bool false, .slice none 0 0] 158)) := Step.of _ _
  have hbx := boxes5 w ((((((w.alloc (.cells #[.bool na, .slice A ka ca] 158)).alloc (.cells #[.bool nb, .slice B kb cb] 158)).alloc (.cells #[.bool nc, .slice C kc cc] 158)).alloc (.cells #[.bool nd, .slice D kd cd] 158)).alloc (.cells #[.bool ne, .slice E ke ce] 158)).alloc (.cells #[.bool false, .slice none 0 0] 158)) (.bool na) (.slice A ka ca) (.bool nb) (.slice B kb cb) (.bool nc) (.slice C kc cc) (.bool nd) (.slice D kd cd) (.bool ne) (.slice E ke ce) (.bool false) (.slice none 0 0) 158
  have hrb := box2At (((((w.alloc (.cells #[.bool na, .slice A ka ca] 158)).alloc (.cells #[.bool nb, .slice B kb cb] 158)).alloc (.cells #[.bool nc, .slice C kc cc] 158)).alloc (.cells #[.bool nd, .slice D kd cd] 158)).alloc (.cells #[.bool ne, .slice E ke ce] 158)) ((((((w.alloc (.cells #[.bool na, .slice A ka ca] 158)).alloc (.cells #[.bool nb, .slice B kb cb] 158)).alloc (.cells #[.bool nc, .slice C kc cc] 158)).alloc (.cells #[.bool nd, .slice D kd cd] 158)).alloc (.cells #[.bool ne, .slice E ke ce] 158)).alloc (.cells #[.bool false, .slice none 0 0] 158)) (w.heap.size + 1 + 1 + 1 + 1 + 1) (.bool false) (.slice none 0 0) 158 (by simp)
  generalize ((((((w.alloc (.cells #[.bool na, .slice A ka ca] 158)).alloc (.cells #[.bool nb, .slice B kb cb] 158)).alloc (.cells #[.bool nc, .slice C kc cc] 158)).alloc (.cells #[.bool nd, .slice D kd cd] 158)).alloc (.cells #[.bool ne, .slice E ke ce] 158)).alloc (.cells #[.bool false, .slice none 0 0] 158)) = W at hst hbx hrb ⊢
  obtain ⟨q0, q1, q2, q3, q4, q5⟩ := hrb
  have o0 : Old w.heap.size W := ⟨by omega⟩
  have o1 : Old (w.heap.size + 1) W := ⟨by omega⟩
  have o2 : Old (w.heap.size + 1 + 1) W := ⟨by omega⟩
  have o3 : Old (w.heap.size + 1 + 1 + 1) W := ⟨by omega⟩
  have o4 : Old (w.heap.size + 1 + 1 + 1 + 1) W := ⟨by omega⟩
  have o5 : Old (w.heap.size + 1 + 1 + 1 + 1 + 1) W := ⟨by omega⟩
  have HB := Lib.hid hbx
  have Q0 := Lib.hid q0
  have Q1 := Lib.hid q1
  have Q2 := Lib.hid q2
  have Q3 := Lib.hid q3
  have Q4 := Lib.hid q4
  clear hbx q0 q1 q2 q3 q4 q5
  go_cut [11] (fun s11 wx => ∃ (p : Nat) (g : Bool) (B' : Option Addr) (k' d' : Nat), s11 = .pointer (some ⟨p, 0, none⟩) ∧ wx.cell? ⟨p, 0, none⟩ = some (.bool g) ∧ wx.cell? ⟨p, 1, none⟩ = some (.slice B' k' d') ∧ IntV wx g B' k' d' ((a * d - b * c) / v) ∧ Ext W wx)
  case first =>
    go_region_held3 (fun w' => w'.cell? ⟨w.heap.size, 0, none⟩ = some (.bool na) ∧ w'.cell? ⟨w.heap.size, 1, none⟩ = some (.slice A ka ca) ∧ w'.cell? ⟨w.heap.size + 1, 0, none⟩ = some (.bool nb) ∧ w'.cell? ⟨w.heap.size + 1, 1, none⟩ = some (.slice B kb cb) ∧ w'.cell? ⟨w.heap.size + 1 + 1, 0, none⟩ = some (.bool nc) ∧ w'.cell? ⟨w.heap.size + 1 + 1, 1, none⟩ = some (.slice C kc cc) ∧ w'.cell? ⟨w.heap.size + 1 + 1 + 1, 0, none⟩ = some (.bool nd) ∧ w'.cell? ⟨w.heap.size + 1 + 1 + 1, 1, none⟩ = some (.slice D kd cd) ∧ w'.cell? ⟨w.heap.size + 1 + 1 + 1 + 1, 0, none⟩ = some (.bool ne) ∧ w'.cell? ⟨w.heap.size + 1 + 1 + 1 + 1, 1, none⟩ = some (.slice E ke ce))
      ((simp only [cellE W]; exact HB.out))
      (first
        | (go_at_call_of 184 (Value.slice A ka ca); refine (Mul_any ha hd (by omega) (by omega)).mono ?_; rintro e w1 ⟨g1, B1, k1, d1, rfl, hz1, hs1⟩)
        | (go_at_call_of 184 (Value.slice B kb cb); refine (Mul_any hb hc (by omega) (by omega)).mono ?_; rintro e w2 ⟨g2, B2, k2, d2, rfl, hz2, hs2⟩)
        | (go_at_call 183; refine (Sub_any hz1 hz2 (by have := hz1.len2 b1; omega) (by have := hz2.len2 b2; omega)).mono ?_; rintro e w3 ⟨g3, B3, k3, d3, rfl, hz3, hs3⟩)
        | (go_at_call 182; refine (DivMod_small hz3 he b3 hv bv).mono ?_; rintro e w4 ⟨g4, B4, k4, d4, g5, B5, k5, d5, rfl, hz4, hz5, hs4⟩))
    all_goals (go_wp2_with fail; go_meet; exact ⟨_, g4, B4, k4, d4, rfl, by go_simp, by go_simp, hz4.keeps, inferInstance⟩)
  case rest =>
    obtain ⟨p, g, B', k', d', rfl, hp1, hp2, hz, hxx⟩ := hcut
    have r0 := heap_of_ext hxx Q0.out
    have r1 : wc.cell? ⟨w.heap.size + 1 + 1 + 1 + 1 + 1, 0, none⟩ = some (.bool false) := (cellE W).trans Q1.out
    have r2 : wc.cell? ⟨w.heap.size + 1 + 1 + 1 + 1 + 1, 1, none⟩ = some (.slice none 0 0) := (cellE W).trans Q2.out
    have r3 : wc.frozen? ⟨w.heap.size + 1 + 1 + 1 + 1 + 1, 0, none⟩ = false := (frozenE W).trans Q3.out
    have r4 : wc.frozen? ⟨w.heap.size + 1 + 1 + 1 + 1 + 1, 1, none⟩ = false := (frozenE W).trans Q4.out
    have R0 := Lib.hid r0
    clear r0
    go_wp2
    exact bodyPost_ret (v := .agg #[.bool g, .slice B' k' d']) (by simp [results, Tryz.results142, go_sem, r1, r2]) rfl ⟨_, _, _, _, rfl, hz.boxed (by decide) R0.out _ _, (((hst.ext.trans hxx).setCell (p := ⟨w.heap.size + 1 + 1 + 1 + 1 + 1, 0, none⟩) (show w.heap.size ≤ w.heap.size + 1 + 1 + 1 + 1 + 1 by omega) _).setCell (p := ⟨w.heap.size + 1 + 1 + 1 + 1 + 1, 1, none⟩) (show w.heap.size ≤ w.heap.size + 1 + 1 + 1 + 1 + 1 by omega) _).toStep⟩
end Go.Proofs.YtaaldapmkhamlaaGreat

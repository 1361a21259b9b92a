/-
  Contracts of functions of the program, joined: Ref4, Bd0, Lp, Gmm, Rq, Boxs. No statement of the seat is proved here.
-/
import Derived.Test.YtjehjkipcaohpaaGreatJ14
import Derived.Deep.DeepCutAuto
import Derived.Deep.RegionLaw
import Derived.Test.YtjehjkipcaohpaaGreatJ12
set_option linter.unusedVariables false
set_option linter.unusedSimpArgs false
set_option linter.constructorNameAsVariable false
namespace Go.Proofs.YtjehjkipcaohpaaGreat
open Go.RowKit
theorem rdivideN {w0 w1 w : World} {A B : Option Addr} {n k c d : Nat} {x y : Int} (ha : NatV w0 A n c x) (hb : NatV w1 B k d y) (h1 : n ≤ 274877906943) (h2 : k ≤ 274877906943) (hy0 : 0 < y) [hx : Ext w0 w] [hy : Ext w1 w] :
    Calls Tryz.prog 241 #[.slice A n c, .slice B k d] w (RetDiv w (x / y) (x % y)) := by
  by_cases hs : n ≤ 2 ∧ k ≤ 2
  · exact rdivide_small ha hb hs.1 hs.2 hy0
  · obtain ⟨l, rfl, a1, a2, a3, rfl, a5, a6⟩ := ha
    exact rdivide_big a1 a2 hb (by omega) h1 h2 hy0
theorem rMakeN {w0 w : World} {A : Option Addr} {n c : Nat} {z : Int} (g : Bool) (h : NatV w0 A n c z) (h40 : n ≤ 1099511627776) [hx : Ext w0 w] : Calls Tryz.prog 206 #[.bool g, .slice A n c] w (RetInt w (sgn g z)) := by
  obtain ⟨l, rfl, a1, a2, a3, rfl, a5, a6⟩ := h
  exact rMake_any g a1 a2 a5 a6 h40
theorem lt_of_cell {w : World} {b i : Nat} {v : Value} (h : w.cell? ⟨b, i, none⟩ = some v) : b < w.heap.size := by
  rcases Nat.lt_or_ge b w.heap.size with h1 | h1
  · exact h1
  · simp [World.cell?, Array.getElem?_eq_none h1] at h
theorem NatV.le_len {w w' : World} {A A' : Option Addr} {n n' c c' : Nat} {z z' : Int} (h : NatV w A n c z) (h' : NatV w' A' n' c' z') (hz : z' ≤ z) : n' ≤ n := by
  obtain ⟨l, rfl, a1, a2, a3, rfl, a5, a6⟩ := h
  exact h'.len (k := l.length) (by have := val_lt a2; omega)
set_option maxHeartbeats 8000000 in
theorem rDivMod_neg {w0 w1 w : World} {na nb : Bool} {A B : Option Addr} {n k c d : Nat} {x y : Int} (ha : IntV w0 na A n c x) (hb : IntV w1 nb B k d y) (h1 : n ≤ 274877906943) (h2 : k ≤ 274877906943) (hy0 : y ≠ 0) (hneg : x < 0) (hrz : (x.natAbs : Int) % y.natAbs ≠ 0) [hx : Ext w0 w] [hy : Ext w1 w] :
    Calls Tryz.prog 214 #[.agg #[.bool na, .slice A n c], .agg #[.bool nb, .slice B k d]] w (RetInt2 w (x / y) (x % y) true) := by
  have hta := fun W (hh : Ext w0 W) => rtrimV (w := W) ha (by omega)
  have htb := fun W (hh : Ext w1 W) => rtrimV (w := W) hb (by omega)
  have HTA := Lib.hid hta
  have HTB := Lib.hid htb
  have hna := ha.neg_eq
  have hnb := hb.neg_eq
  have HDV : Hid (∀ (W0 W1 W : World) B1 k1 d1 B2 k2 d2, NatV W0 B1 k1 d1 x.natAbs → NatV W1 B2 k2 d2 y.natAbs → Ext W0 W → Ext W1 W → Calls Tryz.prog 241 #[.slice B1 k1 d1, .slice B2 k2 d2] W (RetDiv W ((x.natAbs : Int) / y.natAbs) ((x.natAbs : Int) % y.natAbs))) := Lib.hid (fun W0 W1 W B1 k1 d1 B2 k2 d2 a b e1 e2 => rdivideN a b (by have := ha.nat.le_len a (Int.le_refl _); omega) (by have := hb.nat.le_len b (Int.le_refl _); omega) (by omega))
  have HK0 : Hid (∀ (W : World) B1 k1 d1, NatV W B1 k1 d1 (y.natAbs : Int) → ((k1 : Int) == 0) = false) := Lib.hid (by intro W B1 k1 d1 h; have := h.zero_iff; simp; omega)
  have hr0 := Int.emod_nonneg (x.natAbs : Int) (show (y.natAbs : Int) ≠ 0 by omega)
  have hr1 := Int.emod_lt_of_pos (x.natAbs : Int) (show 0 < (y.natAbs : Int) by omega)
  have hq0 : 0 ≤ (x.natAbs : Int) / y.natAbs := Int.ediv_nonneg (by omega) (by omega)
  have hq1 : (x.natAbs : Int) / y.natAbs ≤ x.natAbs := Int.ediv_le_self _ (by omega)
  have HLQ : Hid (∀ (W : World) B1 k1 d1, NatV W B1 k1 d1 ((x.natAbs : Int) / y.natAbs) → k1 ≤ 274877906943) := Lib.hid (by intro W B1 k1 d1 h; have := ha.nat.le_len h hq1; omega)
  have HLR : Hid (∀ (W : World) B1 k1 d1, NatV W B1 k1 d1 ((x.natAbs : Int) % y.natAbs) → k1 ≤ 274877906943) := Lib.hid (by intro W B1 k1 d1 h; have := hb.nat.le_len h (by omega); omega)
  have HLY : Hid (∀ (W : World) g1 B1 k1 d1 z, IntV W g1 B1 k1 d1 z → z.natAbs ≤ y.natAbs → k1 ≤ 274877906943) := Lib.hid (by intro W g1 B1 k1 d1 z h hz; have := hb.nat.le_len h.nat (by omega); omega)
  have HLX : Hid (∀ (W : World) g1 B1 k1 d1 z, IntV W g1 B1 k1 d1 z → z.natAbs ≤ x.natAbs → k1 ≤ 274877906943) := Lib.hid (by intro W g1 B1 k1 d1 z h hz; have := ha.nat.le_len h.nat (by omega); omega)
  clear hta htb
  obtain rfl : na = true := by simp [hna, hneg]
  have HLN : Hid (∀ (W : World) B1 k1 d1, NatV W B1 k1 d1 (y.natAbs : Int) → k1 ≤ 274877906943) := Lib.hid (by intro W B1 k1 d1 h; have := hb.nat.le_len h (Int.le_refl _); omega)
  have HE := Lib.hid (div_neg_case x y hneg hy0 hrz)
  rw [← hnb] at HE
  generalize (x.natAbs : Int) / y.natAbs = q at *
  generalize (x.natAbs : Int) % y.natAbs = r at *
  have hsr : decide (cmpI (sgn true r) 0 < 0) = true := by simp only [sgn]; unfold cmpI; simp; omega
  obtain ⟨ts, hts⟩ : ∃ t, cmpI (sgn true r) 0 = t := ⟨_, rfl⟩
  rw [hts] at hsr
  have HTS := Lib.hid hts
  clear hts
  have HNB := Lib.hid hnb
  clear hna hnb hneg hrz
  go_enter Tryz.func214, Tryz.ntmps214
  go_wp2
  go_region_held3 (fun w' => w'.cell? ⟨w.heap.size, 1, none⟩ = some (.slice A n c) ∧ w'.cell? ⟨w.heap.size + 1, 1, none⟩ = some (.slice B k d)) (exact boxes2s w _ (.bool true) (.slice A n c) (.bool nb) (.slice B k d) 148 148)
    (first
      | (go_at_call_of 201 (Value.slice A n c); refine (HTA.out _ inferInstance).mono ?_; rintro e w4 ⟨B4, k4, d4, rfl, hN4, hs4⟩)
      | (go_at_call_of 201 (Value.slice B k d); refine (HTB.out _ inferInstance).mono ?_; rintro e w5 ⟨B5, k5, d5, rfl, hN5, hs5⟩))
  have hk5 := HK0.out _ _ _ _ hN5
  go_wp2_with (go_at_call 241; refine (HDV.out _ _ _ _ _ _ _ _ _ hN4 hN5 inferInstance inferInstance).mono ?_; rintro e w6 ⟨B6, k6, d6, B7, k7, d7, rfl, hN6, hN7, hs6⟩; obtain ⟨c1, c2, c3, c4⟩ := boxes2 w w6 (.bool true) (.slice A n c) (.bool nb) (.slice B k d) 148 148)
  have hqm := HLQ.out _ _ _ _ hN6
  have hrm := HLR.out _ _ _ _ hN7
  have o0 : Old w.heap.size w6 := inferInstance
  have o1 : Old (w.heap.size + 1) w6 := inferInstance
  have HC := Lib.hid (And.intro c1 c3)
  have hx6 : Ext ((((w.alloc (.cells #[.bool true, .slice A n c] 148)).alloc (.cells #[.bool nb, .slice B k d] 148)).alloc (.cells #[.bool false, .slice none 0 0] 148)).alloc (.cells #[.bool false, .slice none 0 0] 148)) w6 := inferInstance
  have HX6 := Lib.hid hx6
  clear c1 c2 c3 c4 hx6
  go_cut [11, 12] (fun s11 s12 wx => ∃ (p p' : Nat) (g8 g9 : Bool) (B8 B9 : Option Addr) (k8 d8 k9 d9 : Nat), s11 = .pointer (some ⟨p, 0, none⟩) ∧ s12 = .pointer (some ⟨p', 0, none⟩) ∧ wx.cell? ⟨p, 0, none⟩ = some (.bool g8) ∧ wx.cell? ⟨p, 1, none⟩ = some (.slice B8 k8 d8) ∧ wx.cell? ⟨p', 0, none⟩ = some (.bool g9) ∧ wx.cell? ⟨p', 1, none⟩ = some (.slice B9 k9 d9) ∧ IntV wx g8 B8 k8 d8 (sgn (!nb) q) ∧ IntV wx g9 B9 k9 d9 (sgn true r) ∧ Ext w6 wx ∧ w6.heap.size ≤ p ∧ w6.heap.size ≤ p' ∧ p ≠ p' ∧ wx.frozen? ⟨p', 0, none⟩ = false ∧ wx.frozen? ⟨p', 1, none⟩ = false ∧ Typed p' 148 wx)
  case first =>
    go_region_held3 (fun w' => w'.cell? ⟨w.heap.size, 0, none⟩ = some (.bool true) ∧ w'.cell? ⟨w.heap.size + 1, 0, none⟩ = some (.bool nb)) ((simp only [cellE w6]; exact HC.out))
      (first
        | (go_at_call_of 206 (Value.slice B6 k6 d6); refine (rMakeN _ hN6 (by omega)).mono ?_; rintro e w8 ⟨g8, B8, k8, d8, rfl, hz8, hs8⟩)
        | (go_at_call_of 206 (Value.slice B7 k7 d7); refine (rMakeN _ hN7 (by omega)).mono ?_; rintro e w9 ⟨g9, B9, k9, d9, rfl, hz9, hs9⟩))
    all_goals (go_wp2_with fail; go_meet; refine ⟨_, _, g8, g9, B8, B9, k8, d8, k9, d9, rfl, rfl, by go_simp, by go_simp, by go_simp, by go_simp, ?_, hz9.keeps, inferInstance, New.le, New.le, by first | omega | exact Apart.ne | (simp; done), by go_simp, by go_simp, inferInstance⟩; simpa using hz8.keeps)
  case rest =>
    obtain ⟨p, p', g8, g9, B8, B9, k8, d8, k9, d9, rfl, rfl, e1, e2, e3, e4, hz8, hz9, hxc, hp6, hp6', hpp, HFZ0, HFZ1, htyp⟩ := hcut
    have hs6' : w.heap.size + 1 + 1 + 1 < w6.heap.size := by have := HX6.out.size; simp at this; omega
    have hk9 := HLY.out _ _ _ _ _ _ hz9 (by simp only [sgn]; simp; omega)
    have hsg := fun W (hh : Ext wc W) => rSign_any (w := W) hz9 (by omega)
    rw [HTS.out] at hsg
    have HSG := Lib.hid hsg
    have op : p < wc.heap.size := lt_of_cell e1
    have op' : p' < wc.heap.size := lt_of_cell e3
    have oP : Old p wc := ⟨op⟩
    have oP' : Old p' wc := ⟨op'⟩
    have H8 := Lib.hid hz8
    have hx4 := Lib.hid (HX6.out.trans hxc)
    have hk5' : k5 ≤ 274877906943 := by have := HLN.out _ _ _ _ hN5; omega
    have HMK : Hid (∀ W, Ext w5 W → Calls Tryz.prog 206 #[.bool false, .slice B5 k5 d5] W (RetInt W (sgn false y.natAbs))) := Lib.hid (fun W hh => rMakeN false hN5 (by omega))
    have HAD : Hid (∀ (W1 W : World) g2 B2 k2 d2, IntV W1 g2 B2 k2 d2 (sgn false y.natAbs) → Ext wc W → Ext W1 W → Calls Tryz.prog 170 #[.agg #[.bool g9, .slice B9 k9 d9], .agg #[.bool g2, .slice B2 k2 d2]] W (RetInt W (x % y))) := Lib.hid (by
      intro W1 W g2 B2 k2 d2 hz e1 e2
      have h2 := HLY.out _ _ _ _ _ _ hz (by simp [sgn])
      have := rAdd_any (w := W) hz9 hz (by omega) (by omega)
      rwa [show sgn true r + sgn false (y.natAbs : Int) = x % y by rw [← HE.out.2]; simp [sgn]; omega] at this)
    have hxw5 : Hid (Ext w5 wc) := Lib.hid ((inferInstance : Ext w5 w6).trans hxc)
    clear hsg hz8 hz9 op op'
    go_wp2_with (go_at_call 165; refine (HSG.out _ inferInstance).mono ?_; rintro e w10 ⟨rfl, hs10⟩; have f3 : w10.cell? ⟨p', 0, none⟩ = some (.bool g9) := (cellE wc).trans e3; have f4 : w10.cell? ⟨p', 1, none⟩ = some (.slice B9 k9 d9) := (cellE wc).trans e4)
    have hx10 : Ext w5 w10 := hxw5.out.trans inferInstance
    have oP10 : Old p' w10 := inferInstance
    go_region_with (first
        | (go_at_call 206; refine (HMK.out _ inferInstance).mono ?_; rintro e w11 ⟨g11, B11, k11, d11, rfl, hz11, hs11⟩; have r3 : w11.cell? ⟨p', 0, none⟩ = some (.bool g9) := (cellE wc).trans e3; have r4 : w11.cell? ⟨p', 1, none⟩ = some (.slice B9 k9 d9) := (cellE wc).trans e4)
        | (go_at_call 170; refine (HAD.out _ _ _ _ _ _ hz11 inferInstance inferInstance).mono ?_; rintro e w12 ⟨g12, B12, k12, d12, rfl, hz12, hs12⟩; have s3 : w12.cell? ⟨p', 0, none⟩ = some (.bool g9) := (cellE wc).trans e3; have s4 : w12.cell? ⟨p', 1, none⟩ = some (.slice B9 k9 d9) := (cellE wc).trans e4; have fz0 : w12.frozen? ⟨p', 0, none⟩ = false := (frozenE wc).trans HFZ0; have fz1 : w12.frozen? ⟨p', 1, none⟩ = false := (frozenE wc).trans HFZ1))
    all_goals
      have HW : Hid (∃ W, W = ((w12.setCell ⟨p', 0, none⟩ (.bool g12)).setCell ⟨p', 1, none⟩ (.slice B12 k12 d12))) := Lib.hid ⟨_, rfl⟩
      obtain ⟨W, hW⟩ := HW.out
      have hxcW : Ext w6 W := by
        rw [hW]
        exact ((hxc.trans (inferInstance : Ext wc w12)).setCell (p := ⟨p', 0, none⟩) hp6' (.bool g12)).setCell (p := ⟨p', 1, none⟩) hp6' (.slice B12 k12 d12)
      have hoth : Oth 148 w12 W := by
        obtain ⟨cs, fr, ht⟩ := (inferInstance : Typed p' 148 w12).ex
        rw [hW]
        refine (Oth.set (p := ⟨p', 0, none⟩) ht (.bool g12)).trans ?_
        obtain ⟨cs2, fr2, ht2⟩ := (inferInstance : Typed p' 148 (w12.setCell ⟨p', 0, none⟩ (.bool g12))).ex
        exact Oth.set (p := ⟨p', 1, none⟩) ht2 (.slice B12 k12 d12)
      have hz12' : IntV W g12 B12 k12 d12 (x % y) := hz12.oth hoth (by decide)
      have hz8' : IntV W g8 B8 k8 d8 (sgn (!nb) q) := (H8.out.ext (inferInstance : Ext wc w12)).oth hoth (by decide)
      have w12p0 : w12.cell? ⟨p, 0, none⟩ = some (.bool g8) := (cellE wc).trans e1
      have w12p1 : w12.cell? ⟨p, 1, none⟩ = some (.slice B8 k8 d8) := (cellE wc).trans e2
      have ap : Apart p p' := ⟨hpp⟩
      have t1 : W.cell? ⟨p, 0, none⟩ = some (.bool g8) := by rw [hW]; go_simp
      have t2 : W.cell? ⟨p, 1, none⟩ = some (.slice B8 k8 d8) := by rw [hW]; go_simp
      have t3 : W.cell? ⟨p', 0, none⟩ = some (.bool g12) := by rw [hW]; go_simp
      have t4 : W.cell? ⟨p', 1, none⟩ = some (.slice B12 k12 d12) := by rw [hW]; go_simp
      rw [← hW]
      have hx4W := HX6.out.trans hxcW
      have hxwW : Ext w W := Ext.trans inferInstance hx4W
      have hx1W : Ext w1 W := hy.trans hxwW
      obtain ⟨⟨-, -, b1, b2⟩, -, -⟩ := box4 w W (.bool true) (.slice A n c) (.bool nb) (.slice B k d) (.bool false) (.slice none 0 0) (.bool false) (.slice none 0 0) 148
      have HSB : Hid (∀ W', Ext W W' → Calls Tryz.prog 165 #[.agg #[.bool nb, .slice B k d]] W' (RetVal W' (.int .i64 (cmpI y 0)))) := Lib.hid (fun W' hh => have : Ext w1 W' := hx1W.trans hh; rSign_any hb (by omega))
      have H8 := Lib.hid hz8'
      have H12 := Lib.hid hz12'
      have HT := Lib.hid (And.intro t1 (And.intro t2 (And.intro t3 t4)))
      have HX4 := Lib.hid hx4W
      have oPW : Old p W := ⟨lt_of_cell t1⟩
      have oPW' : Old p' W := ⟨lt_of_cell t3⟩
      have hs6w : w.heap.size + 1 + 1 + 1 < w6.heap.size := by have := HX6.out.size; simp at this; omega
      have a1 : Apart p (w.heap.size + 1 + 1) := ⟨by omega⟩
      have a2 : Apart p (w.heap.size + 1 + 1 + 1) := ⟨by omega⟩
      have a3 : Apart p' (w.heap.size + 1 + 1) := ⟨by omega⟩
      have a4 : Apart p' (w.heap.size + 1 + 1 + 1) := ⟨by omega⟩
      have hk8 := HLX.out _ _ _ _ _ _ hz8' (by cases nb <;> simp [sgn] <;> omega)
      clear hz8' hz12' t1 t2 t3 t4 hx4W hoth hW
      cases nb
      · have hys : decide (cmpI y 0 < 0) = false := by have := HNB.out; simp at this; unfold cmpI; simp; split <;> omega
        generalize cmpI y 0 = ty at *
        have HSU : Hid (∀ (W1 W' : World) g2 B2 k2 d2, IntV W1 g2 B2 k2 d2 1 → Ext W W' → Ext W1 W' → Calls Tryz.prog 172 #[.agg #[.bool g8, .slice B8 k8 d8], .agg #[.bool g2, .slice B2 k2 d2]] W' (RetInt W' (x / y))) := Lib.hid (by
          intro W1 W' g2 B2 k2 d2 hz e1 e2
          have h2 := hz.len (k := 1) (by decide)
          have := rSub_any (w := W') H8.out hz (by omega) (by omega)
          rwa [show sgn (!false) q - 1 = x / y by rw [← HE.out.1]; simp [sgn] <;> omega] at this)
        go_wp2_with (go_at_call 165; refine (HSB.out _ inferInstance).mono ?_; rintro e w13 ⟨rfl, hs13⟩)
        have u1 : w13.cell? ⟨p, 0, none⟩ = some (.bool g8) := (cellE W).trans HT.out.1
        have u2 : w13.cell? ⟨p, 1, none⟩ = some (.slice B8 k8 d8) := (cellE W).trans HT.out.2.1
        have u3 : w13.cell? ⟨p', 0, none⟩ = some (.bool g12) := (cellE W).trans HT.out.2.2.1
        have u4 : w13.cell? ⟨p', 1, none⟩ = some (.slice B12 k12 d12) := (cellE W).trans HT.out.2.2.2
        go_region_with (first
          | (go_at_call 107; refine (rSmall_any 1 (by omega) (by omega) _).mono ?_; rintro e w14 ⟨g14, B14, k14, d14, rfl, hz14, hs14⟩; have v1 : w14.cell? ⟨p, 0, none⟩ = some (.bool g8) := (cellE W).trans HT.out.1; have v2 : w14.cell? ⟨p, 1, none⟩ = some (.slice B8 k8 d8) := (cellE W).trans HT.out.2.1; have v3 : w14.cell? ⟨p', 0, none⟩ = some (.bool g12) := (cellE W).trans HT.out.2.2.1; have v4 : w14.cell? ⟨p', 1, none⟩ = some (.slice B12 k12 d12) := (cellE W).trans HT.out.2.2.2)
          | (go_at_call 172; refine (HSU.out _ _ _ _ _ _ hz14 inferInstance inferInstance).mono ?_; rintro e w15 ⟨g15, B15, k15, d15, rfl, hz15, hs15⟩; have x3 : w15.cell? ⟨p', 0, none⟩ = some (.bool g12) := (cellE W).trans HT.out.2.2.1; have x4 : w15.cell? ⟨p', 1, none⟩ = some (.slice B12 k12 d12) := (cellE W).trans HT.out.2.2.2; have hx15 := HX4.out.trans (inferInstance : Ext W w15); obtain ⟨-, ⟨p0, p1, p2, p3, p4, p5⟩, ⟨q0', q1', q2', q3', q4', q5'⟩⟩ := box4 w w15 (.bool true) (.slice A n c) (.bool false) (.slice B k d) (.bool false) (.slice none 0 0) (.bool false) (.slice none 0 0) 148; have tp : Typed (w.heap.size + 1 + 1) 148 w15 := ⟨_, _, p0⟩; have tq : Typed (w.heap.size + 1 + 1 + 1) 148 w15 := ⟨_, _, q0'⟩; have hxw15 : Ext w w15 := Ext.trans inferInstance hx15; clear p0 q0'))
        all_goals
          go_wp2
          exact bodyPost_ret (v := .tuple #[.agg #[.bool g15, .slice B15 k15 d15], .agg #[.bool g12, .slice B12 k12 d12], .bool true]) (by simp [results, Tryz.results214, go_sem, p1, p2, q1', q2']) rfl ⟨_, _, _, _, _, _, _, _, rfl, hz15.keeps, H12.out.keeps, Step.of _ _⟩
      · have hys : decide (cmpI y 0 < 0) = true := by have := HNB.out; simp at this; unfold cmpI; simp; omega
        generalize cmpI y 0 = ty at *
        have HSU : Hid (∀ (W1 W' : World) g2 B2 k2 d2, IntV W1 g2 B2 k2 d2 1 → Ext W W' → Ext W1 W' → Calls Tryz.prog 170 #[.agg #[.bool g8, .slice B8 k8 d8], .agg #[.bool g2, .slice B2 k2 d2]] W' (RetInt W' (x / y))) := Lib.hid (by
          intro W1 W' g2 B2 k2 d2 hz e1 e2
          have h2 := hz.len (k := 1) (by decide)
          have := rAdd_any (w := W') H8.out hz (by omega) (by omega)
          rwa [show sgn (!true) q + 1 = x / y by rw [← HE.out.1]; simp [sgn] <;> omega] at this)
        go_wp2_with (go_at_call 165; refine (HSB.out _ inferInstance).mono ?_; rintro e w13 ⟨rfl, hs13⟩)
        have u1 : w13.cell? ⟨p, 0, none⟩ = some (.bool g8) := (cellE W).trans HT.out.1
        have u2 : w13.cell? ⟨p, 1, none⟩ = some (.slice B8 k8 d8) := (cellE W).trans HT.out.2.1
        have u3 : w13.cell? ⟨p', 0, none⟩ = some (.bool g12) := (cellE W).trans HT.out.2.2.1
        have u4 : w13.cell? ⟨p', 1, none⟩ = some (.slice B12 k12 d12) := (cellE W).trans HT.out.2.2.2
        go_region_with (first
          | (go_at_call 107; refine (rSmall_any 1 (by omega) (by omega) _).mono ?_; rintro e w14 ⟨g14, B14, k14, d14, rfl, hz14, hs14⟩; have v1 : w14.cell? ⟨p, 0, none⟩ = some (.bool g8) := (cellE W).trans HT.out.1; have v2 : w14.cell? ⟨p, 1, none⟩ = some (.slice B8 k8 d8) := (cellE W).trans HT.out.2.1; have v3 : w14.cell? ⟨p', 0, none⟩ = some (.bool g12) := (cellE W).trans HT.out.2.2.1; have v4 : w14.cell? ⟨p', 1, none⟩ = some (.slice B12 k12 d12) := (cellE W).trans HT.out.2.2.2)
          | (go_at_call 170; refine (HSU.out _ _ _ _ _ _ hz14 inferInstance inferInstance).mono ?_; rintro e w15 ⟨g15, B15, k15, d15, rfl, hz15, hs15⟩; have x3 : w15.cell? ⟨p', 0, none⟩ = some (.bool g12) := (cellE W).trans HT.out.2.2.1; have x4 : w15.cell? ⟨p', 1, none⟩ = some (.slice B12 k12 d12) := (cellE W).trans HT.out.2.2.2; have hx15 := HX4.out.trans (inferInstance : Ext W w15); obtain ⟨-, ⟨p0, p1, p2, p3, p4, p5⟩, ⟨q0', q1', q2', q3', q4', q5'⟩⟩ := box4 w w15 (.bool true) (.slice A n c) (.bool true) (.slice B k d) (.bool false) (.slice none 0 0) (.bool false) (.slice none 0 0) 148; have tp : Typed (w.heap.size + 1 + 1) 148 w15 := ⟨_, _, p0⟩; have tq : Typed (w.heap.size + 1 + 1 + 1) 148 w15 := ⟨_, _, q0'⟩; have hxw15 : Ext w w15 := Ext.trans inferInstance hx15; clear p0 q0'))
        all_goals
          go_wp2
          exact bodyPost_ret (v := .tuple #[.agg #[.bool g15, .slice B15 k15 d15], .agg #[.bool g12, .slice B12 k12 d12], .bool true]) (by simp [results, Tryz.results214, go_sem, p1, p2, q1', q2']) rfl ⟨_, _, _, _, _, _, _, _, rfl, hz15.keeps, H12.out.keeps, Step.of _ _⟩
set_option maxHeartbeats 2000000 in
theorem rDivMod_any {w0 w1 w : World} {na nb : Bool} {A B : Option Addr} {n k c d : Nat} {x y : Int} (ha : IntV w0 na A n c x) (hb : IntV w1 nb B k d y) (h1 : n ≤ 274877906943) (h2 : k ≤ 274877906943) (hy0 : y ≠ 0) [hx : Ext w0 w] [hy : Ext w1 w] :
    Calls Tryz.prog 214 #[.agg #[.bool na, .slice A n c], .agg #[.bool nb, .slice B k d]] w (RetInt2 w (x / y) (x % y) true) := by
  have hta := fun W (hh : Ext w0 W) => rtrimV (w := W) ha (by omega)
  have htb := fun W (hh : Ext w1 W) => rtrimV (w := W) hb (by omega)
  have HTA := Lib.hid hta
  have HTB := Lib.hid htb
  have hna := ha.neg_eq
  have hnb := hb.neg_eq
  have HDV : Hid (∀ (W0 W1 W : World) B1 k1 d1 B2 k2 d2, NatV W0 B1 k1 d1 x.natAbs → NatV W1 B2 k2 d2 y.natAbs → Ext W0 W → Ext W1 W → Calls Tryz.prog 241 #[.slice B1 k1 d1, .slice B2 k2 d2] W (RetDiv W ((x.natAbs : Int) / y.natAbs) ((x.natAbs : Int) % y.natAbs))) := Lib.hid (fun W0 W1 W B1 k1 d1 B2 k2 d2 a b e1 e2 => rdivideN a b (by have := ha.nat.le_len a (Int.le_refl _); omega) (by have := hb.nat.le_len b (Int.le_refl _); omega) (by omega))
  have HK0 : Hid (∀ (W : World) B1 k1 d1, NatV W B1 k1 d1 (y.natAbs : Int) → ((k1 : Int) == 0) = false) := Lib.hid (by intro W B1 k1 d1 h; have := h.zero_iff; simp; omega)
  have hr0 := Int.emod_nonneg (x.natAbs : Int) (show (y.natAbs : Int) ≠ 0 by omega)
  have hr1 := Int.emod_lt_of_pos (x.natAbs : Int) (show 0 < (y.natAbs : Int) by omega)
  have hq0 : 0 ≤ (x.natAbs : Int) / y.natAbs := Int.ediv_nonneg (by omega) (by omega)
  have hq1 : (x.natAbs : Int) / y.natAbs ≤ x.natAbs := Int.ediv_le_self _ (by omega)
  have HLQ : Hid (∀ (W : World) B1 k1 d1, NatV W B1 k1 d1 ((x.natAbs : Int) / y.natAbs) → k1 ≤ 274877906943) := Lib.hid (by intro W B1 k1 d1 h; have := ha.nat.le_len h hq1; omega)
  have HLR : Hid (∀ (W : World) B1 k1 d1, NatV W B1 k1 d1 ((x.natAbs : Int) % y.natAbs) → k1 ≤ 274877906943) := Lib.hid (by intro W B1 k1 d1 h; have := hb.nat.le_len h (by omega); omega)
  have HLY : Hid (∀ (W : World) g1 B1 k1 d1 z, IntV W g1 B1 k1 d1 z → z.natAbs ≤ y.natAbs → k1 ≤ 274877906943) := Lib.hid (by intro W g1 B1 k1 d1 z h hz; have := hb.nat.le_len h.nat (by omega); omega)
  have HLX : Hid (∀ (W : World) g1 B1 k1 d1 z, IntV W g1 B1 k1 d1 z → z.natAbs ≤ x.natAbs → k1 ≤ 274877906943) := Lib.hid (by intro W g1 B1 k1 d1 z h hz; have := ha.nat.le_len h.nat (by omega); omega)
  clear hta htb
  by_cases hneg : x < 0
  · obtain rfl : na = true := by simp [hna, hneg]
    by_cases hrz : (x.natAbs : Int) % y.natAbs = 0
    · have HE := Lib.hid (div_neg_exact x y hneg hy0 hrz)
      rw [← hnb] at HE
      generalize (x.natAbs : Int) / y.natAbs = q at *
      generalize (x.natAbs : Int) % y.natAbs = r at *
      have HR0 := Lib.hid hrz
      have hsr : decide (cmpI (sgn true r) 0 < 0) = false := by simp only [sgn]; unfold cmpI; simp; omega
      obtain ⟨ts, hts⟩ : ∃ t, cmpI (sgn true r) 0 = t := ⟨_, rfl⟩
      rw [hts] at hsr
      have HTS := Lib.hid hts
      clear hts
      clear hna hnb hneg hrz
      go_enter Tryz.func214, Tryz.ntmps214
      go_wp2
      go_region_held3 (fun w' => w'.cell? ⟨w.heap.size, 1, none⟩ = some (.slice A n c) ∧ w'.cell? ⟨w.heap.size + 1, 1, none⟩ = some (.slice B k d)) (exact boxes2s w _ (.bool true) (.slice A n c) (.bool nb) (.slice B k d) 148 148)
        (first
          | (go_at_call_of 201 (Value.slice A n c); refine (HTA.out _ inferInstance).mono ?_; rintro e w4 ⟨B4, k4, d4, rfl, hN4, hs4⟩)
          | (go_at_call_of 201 (Value.slice B k d); refine (HTB.out _ inferInstance).mono ?_; rintro e w5 ⟨B5, k5, d5, rfl, hN5, hs5⟩))
      have hk5 := HK0.out _ _ _ _ hN5
      go_wp2_with (go_at_call 241; refine (HDV.out _ _ _ _ _ _ _ _ _ hN4 hN5 inferInstance inferInstance).mono ?_; rintro e w6 ⟨B6, k6, d6, B7, k7, d7, rfl, hN6, hN7, hs6⟩; obtain ⟨c1, c2, c3, c4⟩ := boxes2 w w6 (.bool true) (.slice A n c) (.bool nb) (.slice B k d) 148 148)
      have hqm := HLQ.out _ _ _ _ hN6
      have hrm := HLR.out _ _ _ _ hN7
      have o0 : Old w.heap.size w6 := inferInstance
      have o1 : Old (w.heap.size + 1) w6 := inferInstance
      have HC := Lib.hid (And.intro c1 c3)
      have hx6 : Ext ((((w.alloc (.cells #[.bool true, .slice A n c] 148)).alloc (.cells #[.bool nb, .slice B k d] 148)).alloc (.cells #[.bool false, .slice none 0 0] 148)).alloc (.cells #[.bool false, .slice none 0 0] 148)) w6 := inferInstance
      have HX6 := Lib.hid hx6
      clear c1 c2 c3 c4 hx6
      go_cut [11, 12] (fun s11 s12 wx => ∃ (p p' : Nat) (g8 g9 : Bool) (B8 B9 : Option Addr) (k8 d8 k9 d9 : Nat), s11 = .pointer (some ⟨p, 0, none⟩) ∧ s12 = .pointer (some ⟨p', 0, none⟩) ∧ wx.cell? ⟨p, 0, none⟩ = some (.bool g8) ∧ wx.cell? ⟨p, 1, none⟩ = some (.slice B8 k8 d8) ∧ wx.cell? ⟨p', 0, none⟩ = some (.bool g9) ∧ wx.cell? ⟨p', 1, none⟩ = some (.slice B9 k9 d9) ∧ IntV wx g8 B8 k8 d8 (sgn (!nb) q) ∧ IntV wx g9 B9 k9 d9 (sgn true r) ∧ Ext w6 wx ∧ w6.heap.size ≤ p ∧ w6.heap.size ≤ p')
      case first =>
        go_region_held3 (fun w' => w'.cell? ⟨w.heap.size, 0, none⟩ = some (.bool true) ∧ w'.cell? ⟨w.heap.size + 1, 0, none⟩ = some (.bool nb)) ((simp only [cellE w6]; exact HC.out))
          (first
            | (go_at_call_of 206 (Value.slice B6 k6 d6); refine (rMakeN _ hN6 (by omega)).mono ?_; rintro e w8 ⟨g8, B8, k8, d8, rfl, hz8, hs8⟩)
            | (go_at_call_of 206 (Value.slice B7 k7 d7); refine (rMakeN _ hN7 (by omega)).mono ?_; rintro e w9 ⟨g9, B9, k9, d9, rfl, hz9, hs9⟩))
        all_goals (go_wp2_with fail; go_meet; refine ⟨_, _, g8, g9, B8, B9, k8, d8, k9, d9, rfl, rfl, by go_simp, by go_simp, by go_simp, by go_simp, ?_, hz9.keeps, inferInstance, New.le, New.le⟩; simpa using hz8.keeps)
      case rest =>
        obtain ⟨p, p', g8, g9, B8, B9, k8, d8, k9, d9, rfl, rfl, e1, e2, e3, e4, hz8, hz9, hxc, hp6, hp6'⟩ := hcut
        have hs6' : w.heap.size + 1 + 1 + 1 < w6.heap.size := by have := HX6.out.size; simp at this; omega
        have a1 : Apart p (w.heap.size + 1 + 1) := ⟨by omega⟩
        have a2 : Apart p (w.heap.size + 1 + 1 + 1) := ⟨by omega⟩
        have a3 : Apart p' (w.heap.size + 1 + 1) := ⟨by omega⟩
        have a4 : Apart p' (w.heap.size + 1 + 1 + 1) := ⟨by omega⟩
        have hk9 := HLY.out _ _ _ _ _ _ hz9 (by have := HR0.out; simp only [sgn]; simp; omega)
        have hsg := fun W (hh : Ext wc W) => rSign_any (w := W) hz9 (by omega)
        rw [HTS.out] at hsg
        have HSG := Lib.hid hsg
        have op : p < wc.heap.size := lt_of_cell e1
        have op' : p' < wc.heap.size := lt_of_cell e3
        have oP : Old p wc := ⟨op⟩
        have oP' : Old p' wc := ⟨op'⟩
        have H8 := Lib.hid hz8
        have H9 := Lib.hid hz9
        have hx4 := Lib.hid (HX6.out.trans hxc)
        clear hsg hz8 hz9 op op'
        go_wp2_with (go_at_call 165; refine (HSG.out _ inferInstance).mono ?_; rintro e w10 ⟨rfl, hs10⟩; have f1 : w10.cell? ⟨p, 0, none⟩ = some (.bool g8) := (cellE wc).trans e1; have f2 : w10.cell? ⟨p, 1, none⟩ = some (.slice B8 k8 d8) := (cellE wc).trans e2; have f3 : w10.cell? ⟨p', 0, none⟩ = some (.bool g9) := (cellE wc).trans e3; have f4 : w10.cell? ⟨p', 1, none⟩ = some (.slice B9 k9 d9) := (cellE wc).trans e4)
        have hx10 : Ext ((((w.alloc (.cells #[.bool true, .slice A n c] 148)).alloc (.cells #[.bool nb, .slice B k d] 148)).alloc (.cells #[.bool false, .slice none 0 0] 148)).alloc (.cells #[.bool false, .slice none 0 0] 148)) w10 := hx4.out.trans inferInstance
        obtain ⟨-, ⟨p0, p1, p2, p3, p4, p5⟩, ⟨q0', q1', q2', q3', q4', q5'⟩⟩ := box4 w w10 (.bool true) (.slice A n c) (.bool nb) (.slice B k d) (.bool false) (.slice none 0 0) (.bool false) (.slice none 0 0) 148
        have P0 := Lib.hid p0
        have Q0 := Lib.hid q0'
        clear p0 q0' e1 e2 e3 e4
        have tp : Typed (w.heap.size + 1 + 1) 148 w10 := ⟨_, _, P0.out⟩
        have tq : Typed (w.heap.size + 1 + 1 + 1) 148 w10 := ⟨_, _, Q0.out⟩
        have hxw10 : Ext w w10 := Ext.trans inferInstance hx10
        go_region_law fail
        all_goals
          go_wp2
          refine bodyPost_ret (v := .tuple #[.agg #[.bool g8, .slice B8 k8 d8], .agg #[.bool g9, .slice B9 k9 d9], .bool true]) (by simp [results, Tryz.results214, go_sem, p1, p2, q1', q2']) rfl ⟨_, _, _, _, _, _, _, _, rfl, ?_, ?_, ?_⟩
          · rw [← HE.out.1]
            exact H8.out.keeps
          · rw [← HE.out.2]
            have h9 := H9.out
            rw [show sgn true r = r by have := HR0.out; simp [sgn]; omega] at h9
            exact h9.keeps
          · exact Step.of _ _
    · exact rDivMod_neg ha hb h1 h2 hy0 hneg hrz
  · obtain rfl : na = false := by simp [hna]; omega
    have HE := Lib.hid (div_pos_case x y (by omega) hy0)
    rw [← hnb] at HE
    generalize (x.natAbs : Int) / y.natAbs = q at *
    generalize (x.natAbs : Int) % y.natAbs = r at *
    have hsr : decide (cmpI (sgn false r) 0 < 0) = false := by simp only [sgn]; unfold cmpI; simp; split <;> omega
    obtain ⟨ts, hts⟩ : ∃ t, cmpI (sgn false r) 0 = t := ⟨_, rfl⟩
    rw [hts] at hsr
    have HTS := Lib.hid hts
    clear hts
    clear hna hnb hneg
    go_enter Tryz.func214, Tryz.ntmps214
    go_wp2
    go_region_held3 (fun w' => w'.cell? ⟨w.heap.size, 1, none⟩ = some (.slice A n c) ∧ w'.cell? ⟨w.heap.size + 1, 1, none⟩ = some (.slice B k d)) (exact boxes2s w _ (.bool false) (.slice A n c) (.bool nb) (.slice B k d) 148 148)
      (first
        | (go_at_call_of 201 (Value.slice A n c); refine (HTA.out _ inferInstance).mono ?_; rintro e w4 ⟨B4, k4, d4, rfl, hN4, hs4⟩)
        | (go_at_call_of 201 (Value.slice B k d); refine (HTB.out _ inferInstance).mono ?_; rintro e w5 ⟨B5, k5, d5, rfl, hN5, hs5⟩))
    have hk5 := HK0.out _ _ _ _ hN5
    go_wp2_with (go_at_call 241; refine (HDV.out _ _ _ _ _ _ _ _ _ hN4 hN5 inferInstance inferInstance).mono ?_; rintro e w6 ⟨B6, k6, d6, B7, k7, d7, rfl, hN6, hN7, hs6⟩; obtain ⟨c1, c2, c3, c4⟩ := boxes2 w w6 (.bool false) (.slice A n c) (.bool nb) (.slice B k d) 148 148)
    have hqm := HLQ.out _ _ _ _ hN6
    have hrm := HLR.out _ _ _ _ hN7
    have o0 : Old w.heap.size w6 := inferInstance
    have o1 : Old (w.heap.size + 1) w6 := inferInstance
    have HC := Lib.hid (And.intro c1 c3)
    have hx6 : Ext ((((w.alloc (.cells #[.bool false, .slice A n c] 148)).alloc (.cells #[.bool nb, .slice B k d] 148)).alloc (.cells #[.bool false, .slice none 0 0] 148)).alloc (.cells #[.bool false, .slice none 0 0] 148)) w6 := inferInstance
    have HX6 := Lib.hid hx6
    clear c1 c2 c3 c4 hx6
    go_cut [11, 12] (fun s11 s12 wx => ∃ (p p' : Nat) (g8 g9 : Bool) (B8 B9 : Option Addr) (k8 d8 k9 d9 : Nat), s11 = .pointer (some ⟨p, 0, none⟩) ∧ s12 = .pointer (some ⟨p', 0, none⟩) ∧ wx.cell? ⟨p, 0, none⟩ = some (.bool g8) ∧ wx.cell? ⟨p, 1, none⟩ = some (.slice B8 k8 d8) ∧ wx.cell? ⟨p', 0, none⟩ = some (.bool g9) ∧ wx.cell? ⟨p', 1, none⟩ = some (.slice B9 k9 d9) ∧ IntV wx g8 B8 k8 d8 (sgn nb q) ∧ IntV wx g9 B9 k9 d9 (sgn false r) ∧ Ext w6 wx ∧ w6.heap.size ≤ p ∧ w6.heap.size ≤ p')
    case first =>
      go_region_held3 (fun w' => w'.cell? ⟨w.heap.size, 0, none⟩ = some (.bool false) ∧ w'.cell? ⟨w.heap.size + 1, 0, none⟩ = some (.bool nb)) ((simp only [cellE w6]; exact HC.out))
        (first
          | (go_at_call_of 206 (Value.slice B6 k6 d6); refine (rMakeN _ hN6 (by omega)).mono ?_; rintro e w8 ⟨g8, B8, k8, d8, rfl, hz8, hs8⟩)
          | (go_at_call_of 206 (Value.slice B7 k7 d7); refine (rMakeN _ hN7 (by omega)).mono ?_; rintro e w9 ⟨g9, B9, k9, d9, rfl, hz9, hs9⟩))
      all_goals (go_wp2_with fail; go_meet; refine ⟨_, _, g8, g9, B8, B9, k8, d8, k9, d9, rfl, rfl, by go_simp, by go_simp, by go_simp, by go_simp, ?_, hz9.keeps, inferInstance, New.le, New.le⟩; simpa using hz8.keeps)
    case rest =>
      obtain ⟨p, p', g8, g9, B8, B9, k8, d8, k9, d9, rfl, rfl, e1, e2, e3, e4, hz8, hz9, hxc, hp6, hp6'⟩ := hcut
      have hs6' : w.heap.size + 1 + 1 + 1 < w6.heap.size := by have := HX6.out.size; simp at this; omega
      have a1 : Apart p (w.heap.size + 1 + 1) := ⟨by omega⟩
      have a2 : Apart p (w.heap.size + 1 + 1 + 1) := ⟨by omega⟩
      have a3 : Apart p' (w.heap.size + 1 + 1) := ⟨by omega⟩
      have a4 : Apart p' (w.heap.size + 1 + 1 + 1) := ⟨by omega⟩
      have hk9 := HLY.out _ _ _ _ _ _ hz9 (by simp only [sgn]; simp; omega)
      have hsg := fun W (hh : Ext wc W) => rSign_any (w := W) hz9 (by omega)
      rw [HTS.out] at hsg
      have HSG := Lib.hid hsg
      have op : p < wc.heap.size := lt_of_cell e1
      have op' : p' < wc.heap.size := lt_of_cell e3
      have oP : Old p wc := ⟨op⟩
      have oP' : Old p' wc := ⟨op'⟩
      have H8 := Lib.hid hz8
      have H9 := Lib.hid hz9
      have hx4 := Lib.hid (HX6.out.trans hxc)
      clear hsg hz8 hz9 op op'
      go_wp2_with (go_at_call 165; refine (HSG.out _ inferInstance).mono ?_; rintro e w10 ⟨rfl, hs10⟩; have f1 : w10.cell? ⟨p, 0, none⟩ = some (.bool g8) := (cellE wc).trans e1; have f2 : w10.cell? ⟨p, 1, none⟩ = some (.slice B8 k8 d8) := (cellE wc).trans e2; have f3 : w10.cell? ⟨p', 0, none⟩ = some (.bool g9) := (cellE wc).trans e3; have f4 : w10.cell? ⟨p', 1, none⟩ = some (.slice B9 k9 d9) := (cellE wc).trans e4)
      have hx10 : Ext ((((w.alloc (.cells #[.bool false, .slice A n c] 148)).alloc (.cells #[.bool nb, .slice B k d] 148)).alloc (.cells #[.bool false, .slice none 0 0] 148)).alloc (.cells #[.bool false, .slice none 0 0] 148)) w10 := hx4.out.trans inferInstance
      obtain ⟨-, ⟨p0, p1, p2, p3, p4, p5⟩, ⟨q0', q1', q2', q3', q4', q5'⟩⟩ := box4 w w10 (.bool false) (.slice A n c) (.bool nb) (.slice B k d) (.bool false) (.slice none 0 0) (.bool false) (.slice none 0 0) 148
      have P0 := Lib.hid p0
      have Q0 := Lib.hid q0'
      clear p0 q0' e1 e2 e3 e4
      have tp : Typed (w.heap.size + 1 + 1) 148 w10 := ⟨_, _, P0.out⟩
      have tq : Typed (w.heap.size + 1 + 1 + 1) 148 w10 := ⟨_, _, Q0.out⟩
      have hxw10 : Ext w w10 := Ext.trans inferInstance hx10
      go_region_law fail
      all_goals
        go_wp2
        refine bodyPost_ret (v := .tuple #[.agg #[.bool g8, .slice B8 k8 d8], .agg #[.bool g9, .slice B9 k9 d9], .bool true]) (by simp [results, Tryz.results214, go_sem, p1, p2, q1', q2']) rfl ⟨_, _, _, _, _, _, _, _, rfl, ?_, ?_, ?_⟩
        · rw [← HE.out.1]
          exact H8.out.keeps
        · rw [← HE.out.2]
          exact H9.out.keeps
        · exact Step.of _ _
end Go.Proofs.YtjehjkipcaohpaaGreat
namespace Go.Proofs.YtjehjkipcaohpaaGreat
/-! ## Sizes in bits -/
def Bd (k : Nat) (z : Int) : Prop := z.natAbs < 2 ^ k
theorem Bd.mono {k l : Nat} {z : Int} (h : Bd k z) (hl : k ≤ l) : Bd l z := Nat.lt_of_lt_of_le h (Nat.pow_le_pow_right (by omega) hl)
theorem Bd.mul {k l : Nat} {x y : Int} (h : Bd k x) (h' : Bd l y) : Bd (k + l) (x * y) := by
  unfold Bd at *
  rw [Int.natAbs_mul, Nat.pow_add]
  exact Nat.mul_lt_mul_of_lt_of_lt h h'
theorem Bd.neg {k : Nat} {x : Int} (h : Bd k x) : Bd k (-x) := by unfold Bd at *; rwa [Int.natAbs_neg]
theorem Bd.abs {k : Nat} {x : Int} (h : Bd k x) : Bd k (x.natAbs : Int) := by unfold Bd at *; rwa [Int.natAbs_natCast]
theorem Bd.add {k : Nat} {x y : Int} (h : Bd k x) (h' : Bd k y) : Bd (k + 1) (x + y) := by
  unfold Bd at *; rw [Nat.pow_succ]; omega
theorem Bd.sub {k : Nat} {x y : Int} (h : Bd k x) (h' : Bd k y) : Bd (k + 1) (x - y) := by
  unfold Bd at *; rw [Nat.pow_succ]; omega
theorem Bd.div {k : Nat} {x : Int} (y : Int) (h : Bd k x) : Bd k (x / y) := Nat.lt_of_le_of_lt (Int.natAbs_ediv_le_natAbs x y) h
theorem Bd.zero (k : Nat) : Bd k 0 := Nat.pow_pos (by omega)
theorem Bd.le {k : Nat} {x y : Int} (h : Bd k x) (hy : y.natAbs ≤ x.natAbs) : Bd k y := Nat.lt_of_le_of_lt hy h
theorem Bd.one {k : Nat} (h : 1 ≤ k) : Bd k 1 := Nat.lt_of_lt_of_le (by decide : (1 : Int).natAbs < 2 ^ 1) (Nat.pow_le_pow_right (by omega) h)
theorem Bd.of64 {x : Int} (h0 : -9223372036854775808 ≤ x) (h1 : x ≤ 9223372036854775807) : Bd 64 x := by
  unfold Bd
  have : (2 : Nat) ^ 64 = 18446744073709551616 := by decide
  omega
theorem pow32 (k : Nat) : (4294967296 : Nat) ^ k = 2 ^ (32 * k) := by rw [Nat.pow_mul]
end Go.Proofs.YtjehjkipcaohpaaGreat
namespace Go.Proofs.YtjehjkipcaohpaaGreat
open La
/-- All entries of a matrix. -/
def BdM (k : Nat) (a : List (List Int)) : Prop := ∀ i j, Bd k (ent a i j)
theorem BdM.mono {k l : Nat} {a : List (List Int)} (h : BdM k a) (hl : k ≤ l) : BdM l a := fun i j => (h i j).mono hl
theorem BdM.tab {k n r : Nat} {F : Nat → Nat → Int} (h : ∀ i j, i < n → j < r → Bd k (F i j)) : BdM k (tab F n r) := fun i j => by
  by_cases hi : i < n ∧ j < r
  · rw [ent_tab _ _ _ _ _ hi.1 hi.2]; exact h i j hi.1 hi.2
  · rw [ent_out (tab_allLen F n r) (by rw [tab_len]; omega)]; exact Bd.zero k
theorem getD_set_ne' {α : Type} (l : List α) (i j : Nat) (x d : α) (h : i ≠ j) : (l.set i x).getD j d = l.getD j d := by
  simp only [List.getD_eq_getElem?_getD]; rw [List.getElem?_set_ne h]
theorem ent_swap {a : List (List Int)} {p k : Nat} (hp : p < a.length) (hk : k < a.length) (i j : Nat) : ent (swapRows a p k) i j = ent a (if i = k then p else if i = p then k else i) j := by
  unfold swapRows ent
  simp only [List.getD_eq_getElem?_getD]
  by_cases h1 : i = k
  · subst h1
    rw [List.getElem?_set_self (by rw [List.length_set]; exact hk), if_pos rfl, Option.getD_some]
  · rw [List.getElem?_set_ne (by omega), if_neg h1]
    by_cases h2 : i = p
    · subst h2
      rw [List.getElem?_set_self hp, if_pos rfl, Option.getD_some]
    · rw [List.getElem?_set_ne (by omega), if_neg h2]
theorem BdM.swap {k : Nat} {a : List (List Int)} (h : BdM k a) {p q : Nat} (hp : p < a.length) (hq : q < a.length) : BdM k (swapRows a p q) := fun i j => by
  rw [ent_swap hp hq]; exact h _ _
/-- One step of the elimination doubles the size. -/
theorem BdM.elim {k : Nat} {a : List (List Int)} (h : BdM k a) (n c : Nat) (last : Int) : BdM (2 * k + 1) (elimStep n c last a) := by
  refine BdM.tab fun i j hi hj => ?_
  split
  · refine Bd.div _ ?_
    have := ((h c c).mul (h i j)).sub ((h i c).mul (h c j))
    rwa [show k + k = 2 * k by omega] at this
  · exact (h i j).mono (by omega)
/-- The size behind s steps. -/
def bitsAt (b s : Nat) : Nat := 2 ^ s * (b + 1) - 1
theorem bitsAt_zero (b : Nat) : bitsAt b 0 = b := by simp [bitsAt]
theorem bitsAt_succ (b s : Nat) : bitsAt b (s + 1) = 2 * bitsAt b s + 1 := by
  unfold bitsAt
  have : 1 ≤ 2 ^ s * (b + 1) := Nat.mul_pos (Nat.pow_pos (by omega)) (by omega)
  rw [Nat.pow_succ, Nat.mul_comm (2 ^ s) 2, Nat.mul_assoc]; omega
theorem bitsAt_le {b s : Nat} (hs : s ≤ 8) : bitsAt b s ≤ 256 * (b + 1) := by
  unfold bitsAt
  have : 2 ^ s ≤ 2 ^ 8 := Nat.pow_le_pow_right (by omega) hs
  have := Nat.mul_le_mul_right (b + 1) this
  omega

/-! ## The state of the loop -/
def bigA : Rat := ((2 ^ 200 : Nat) : Rat)
/-- h is made of a by the base changes of LLL. -/
inductive Rel (n : Nat) (a : List (List Int)) : List (List Int) → Prop
  | refl : Rel n a a
  | red {h : List (List Int)} (i j : Nat) (q : Int) : Rel n a h → j < i → i < n → Rel n a (congM n h (idRed n i j q))
  | swap {h : List (List Int)} (p : Nat) : Rel n a h → p + 1 < n → Rel n a (congM n h (idSwap n p))
structure LS (n : Nat) (a h : List (List Int)) (N s i c : Nat) : Prop where
  ll : LL n bigA (bigA ^ n) (bigA * n) (bigA * n * bigA ^ n) ((bigA ^ n) ^ n) N (ofZ (ent h)) s i c
  len : h.length = n
  all : AllLen h n
  det : dd (ofZ (ent h)) n ≤ 10000
  n8 : n ≤ 8
  rel : Rel n a h
/-- The number by which a vector is shortened. -/
def nearQ (h : List (List Int)) (i j : Nat) : Int := (2 * E (ent h) j i j + E (ent h) j j j) / (2 * E (ent h) j j j)
theorem LS.red {n : Nat} {a h : List (List Int)} {N s i c : Nat} (hl : LS n a h N s i c) {i' j : Nat} (ha : AtRed (ofZ (ent h)) n i' j) :
    LS n a (congM n h (idRed n i' j (nearQ h i' j))) N s i' (i' - j) ∧ rounds n N s i' (i' - j) < rounds n N s i c := by
  have hpos := hl.ll.j.pos
  have hj : j < n := by have := ha.hi; have := ha.hj; omega
  have hE := E_eq (ent h) j (hpos.le (by omega)).piv
  have hn : Near (ofZ (ent h)) i' j ((nearQ h i' j : Int) : Rat) := near_exists hpos hj (E_pos hpos hj) (hE.1 i' j) (hE.1 j j)
  obtain ⟨h1, h2⟩ := hl.ll.red ha ⟨nearQ h i' j, rfl⟩ hn
  have hf := form_red (q := nearQ h i' j) hl.len hl.all ha.hi ha.hj
  refine ⟨⟨by rw [hf]; exact h1, congM_len _ _ _, congM_all _ _ _, ?_, hl.n8, .red _ _ _ hl.rel ha.hj ha.hi⟩, h2⟩
  rw [hf, dd_red _ ha.hj n hpos.piv]
  exact hl.det
theorem LS.swap {n : Nat} {a h : List (List Int)} {N s i c : Nat} (hl : LS n a h N s i c) {p : Nat} (ha : AtSwap (ofZ (ent h)) n p) :
    LS n a (congM n h (idSwap n p)) N (s + 1) 0 0 ∧ rounds n N (s + 1) 0 0 < rounds n N s i c := by
  have hpos := hl.ll.j.pos
  obtain ⟨h1, h2⟩ := hl.ll.swap ha
  have hf := form_swap hl.len hl.all ha.hp
  refine ⟨⟨by rw [hf]; exact h1, congM_len _ _ _, congM_all _ _ _, ?_, hl.n8, .swap _ hl.rel ha.hp⟩, h2⟩
  have hq := S_pos hl.ll.j.sym hpos (i := p + 1) (l := p) ha.hp (by omega)
  obtain ⟨t, ht⟩ : ∃ t, n = p + 2 + t := ⟨n - (p + 2), by have := ha.hp; omega⟩
  have := dd_swf_gt (p := p) (f := ofZ (ent h)) (hpos.le (by omega)).piv (by grind) t
  rw [← ht] at this
  rw [hf, this]
  exact hl.det
theorem LS.sym {n : Nat} {a h : List (List Int)} {N s i c : Nat} (hl : LS n a h N s i c) (x y : Nat) : ent h x y = ent h y x := by
  have := hl.ll.j.sym x y
  exact Rat.intCast_inj.1 this
theorem bound_nat {n : Nat} (h8 : n ≤ 8) : 2 ^ 200 + n * (2 ^ n * (2 ^ 200 * n * (2 ^ 200) ^ n) * (2 ^ n * (2 ^ 200 * n * (2 ^ 200) ^ n)) * 2 ^ 200) ≤ 2 ^ 4000 := by
  have h1 : (2 ^ 200) ^ n ≤ (2 ^ 200) ^ 8 := Nat.pow_le_pow_right (Nat.pow_pos (by omega)) h8
  have h2 : 2 ^ n ≤ 2 ^ 8 := Nat.pow_le_pow_right (by omega) h8
  have h3 : 2 ^ 200 * n * (2 ^ 200) ^ n ≤ 2 ^ 200 * 8 * (2 ^ 200) ^ 8 := Nat.mul_le_mul (Nat.mul_le_mul_left _ h8) h1
  have h4 := Nat.mul_le_mul h2 h3
  have h5 := Nat.mul_le_mul h8 (Nat.mul_le_mul_right (2 ^ 200) (Nat.mul_le_mul h4 h4))
  refine Nat.le_trans (Nat.add_le_add_left h5 _) ?_
  decide +kernel
theorem LS.bd {n : Nat} {a h : List (List Int)} {N s i c : Nat} (hl : LS n a h N s i c) : BdM 4001 h := fun x y => by
  by_cases hxy : x < n ∧ y < n
  · have b1 := hl.ll.j.bound hl.ll.cst x hxy.1
    have b2 := hl.ll.j.bound hl.ll.cst y hxy.2
    obtain ⟨m1, m2⟩ := entry_mean hl.ll.j.sym hl.ll.j.pos hxy.1 hxy.2
    have hb0 := bound_nat hl.n8
    obtain ⟨k, hk⟩ : ∃ k : Nat, k = 4000 := ⟨_, rfl⟩
    rw [← hk] at hb0
    have hk2 : k + 1 ≤ 4001 := by omega
    clear hk
    refine Bd.mono ?_ hk2
    have hb := Rat.natCast_le_natCast.2 hb0
    simp only [Rat.natCast_add, Rat.natCast_mul, Rat.natCast_pow] at hb
    have e : bigA = ((2 : Nat) : Rat) ^ 200 := by unfold bigA; rw [Rat.natCast_pow]
    rw [e] at b1 b2
    have e2 : ((2 : Nat) : Rat) = 2 := rfl
    rw [e2] at hb b1 b2
    have g1 : ofZ (ent h) x y ≤ 2 ^ k := by grind
    have g2 : -(2 ^ k) ≤ ofZ (ent h) x y := by grind
    have e3 : (2 : Rat) ^ k = ((2 ^ k : Int) : Rat) := by rw [Rat.intCast_pow]; rfl
    have e4 : ofZ (ent h) x y = ((ent h x y : Int) : Rat) := rfl
    rw [e3, e4] at g1 g2
    rw [← Rat.intCast_neg] at g2
    have k1 := Rat.intCast_le_intCast.1 g1
    have k2 := Rat.intCast_le_intCast.1 g2
    unfold Bd
    have e5 : ((2 ^ k : Nat) : Int) = 2 ^ k := by rw [Int.natCast_pow]; rfl
    rw [← e5] at k1 k2
    rw [Nat.pow_succ]
    have : 0 < 2 ^ k := Nat.pow_pos (by omega)
    generalize 2 ^ k = T at *
    omega
  · rw [ent_out hl.all (by rw [hl.len]; omega)]; exact Bd.zero _
theorem LS.done {n : Nat} {a h : List (List Int)} {N s i c : Nat} (hl : LS n a h N s i c) (h1 : ∀ r, r < n → Full (ofZ (ent h)) r) (h2 : ∀ p, p + 1 < n → Lov (ofZ (ent h)) p) : LLLed h := by
  have hn := hl.ll.cst.n1
  have hpos := hl.ll.j.pos
  refine ⟨by rw [hl.len]; exact hn, by rw [hl.len]; exact hl.n8, by rw [hl.len]; exact hl.all, fun x y _ _ => hl.sym x y, by rw [hl.len]; exact hpos, by rw [hl.len]; exact h1, by rw [hl.len]; exact h2, ?_⟩
  rw [hl.len]
  have h3 := (E_eq (ent h) (n - 1) (hpos.le (by omega)).piv).1 (n - 1) (n - 1)
  have h4 := hl.det
  obtain ⟨t, rfl⟩ : ∃ t, n = t + 1 := ⟨n - 1, by omega⟩
  rw [Nat.add_sub_cancel] at h3 ⊢
  have e : dd (ofZ (ent h)) (t + 1) = dd (ofZ (ent h)) t * S (ofZ (ent h)) t t t := rfl
  rw [e, ← h3] at h4
  exact Rat.intCast_le_intCast.1 (by simpa using h4)
/-! ## The start -/
/-- What Reduce asks of a matrix. -/
structure Gm (n : Nat) (a : List (List Int)) : Prop where
  n1 : 1 ≤ n
  n8 : n ≤ 8
  len : a.length = n
  all : AllLen a n
  sym : ∀ i j, i < n → j < n → ent a i j = ent a j i
  pos : Pos (ofZ (ent a)) n
  det : E (ent a) (n - 1) (n - 1) (n - 1) ≤ 10000
  bd : BdM 199 a
theorem pow_64_27 (m : Nat) : (3 : Rat) ^ (3 * m) * 2 ^ m ≤ 4 ^ (3 * m) := by
  induction m with
  | zero => simp
  | succ m ih =>
    have e : 3 * (m + 1) = 3 * m + 3 := by omega
    have h1 : (3 : Rat) ^ 3 = 27 := rfl
    have h2 : (4 : Rat) ^ 3 = 64 := rfl
    rw [e, rpow_add 3 (3 * m) 3, rpow_add 4 (3 * m) 3, h1, h2, Rat.pow_succ]
    have h3 := pow_pos' 4 (by grind) (3 * m)
    have h4 := mul_le_left (c := (54 : Rat)) (by grind) ih
    grind
/-- So many exchanges at most. -/
def swapsN (n : Nat) : Nat := 3 * (200 * n * n + 1)
theorem start_N (n : Nat) : (3 : Rat) ^ swapsN n * (bigA ^ n) ^ n < 4 ^ swapsN n := by
  have h := pow_64_27 (200 * n * n + 1)
  have e : (bigA ^ n) ^ n = (2 : Rat) ^ (200 * n * n) := by
    unfold bigA
    have e2 : (((2 ^ 200 : Nat) : Rat) ^ n) ^ n = (((((2 ^ 200) ^ n) ^ n : Nat)) : Rat) := by simp only [Rat.natCast_pow]
    rw [e2, ← Nat.pow_mul, ← Nat.pow_mul, Rat.natCast_pow]; simp only [Nat.mul_assoc]; rfl
  rw [e]
  unfold swapsN
  rw [Rat.pow_succ] at h
  have h3 := pow_pos' 3 (by grind) (3 * (200 * n * n + 1))
  have h4 := pow_pos' 2 (by grind) (200 * n * n)
  have h5 := Rat.mul_pos (show 0 < (3 : Rat) ^ (3 * (200 * n * n + 1)) by grind) (show 0 < (2 : Rat) ^ (200 * n * n) by grind)
  grind
theorem Gm.start {n : Nat} {a : List (List Int)} (g : Gm n a) : LS n a a (swapsN n) 0 0 0 := by
  have hs : Sym (ofZ (ent a)) := sym_of (by rw [g.len]; exact g.all) (by rw [g.len]; exact g.sym)
  have hA : (1 : Rat) ≤ bigA := by
    unfold bigA
    have := natCast_le (show 1 ≤ 2 ^ 200 from Nat.pow_pos (by omega))
    exact this
  refine ⟨LL.start g.n1 hA hs g.pos (fun x y => ⟨ent a x y, rfl⟩) (fun r hr => ?_) (start_N n), g.len, g.all, ?_, g.n8, .refl⟩
  · have h1 := g.bd r r
    unfold Bd at h1
    have h2 : ent a r r ≤ ((2 ^ 200 : Nat) : Int) := by
      have : (2 : Nat) ^ 200 = 2 ^ 199 * 2 := Nat.pow_succ ..
      rw [this]
      generalize (2 : Nat) ^ 199 = T at *
      omega
    have h3 := Rat.intCast_le_intCast.2 h2
    show ((ent a r r : Int) : Rat) ≤ bigA
    unfold bigA
    rw [Rat.intCast_natCast] at h3
    exact h3
  · obtain ⟨t, rfl⟩ : ∃ t, n = t + 1 := ⟨n - 1, by have := g.n1; omega⟩
    have h3 := (E_eq (ent a) t (g.pos.le (by omega)).piv).1 t t
    have e : dd (ofZ (ent a)) (t + 1) = dd (ofZ (ent a)) t * S (ofZ (ent a)) t t t := rfl
    rw [e, ← h3]
    have := Rat.intCast_le_intCast.2 g.det
    simpa using this
end Go.Proofs.YtjehjkipcaohpaaGreat
namespace Go.Proofs.YtjehjkipcaohpaaGreat
open La
theorem S_diag_row {f : Mx} (h : ∀ i j, i ≠ j → f i j = 0) (k : Nat) : ∀ i j, k ≤ i → S f k i j = f i j := by
  induction k with
  | zero => intro i j _; rfl
  | succ k ih =>
    intro i j hi
    have h1 := ih i j (by omega)
    have h2 := ih i k (by omega)
    have h3 : f i k = 0 := h i k (by omega)
    show elim (S f k) k i j = f i j
    unfold elim
    rw [h1, h2, h3]
    grind
theorem dd_diag_le {f : Mx} {n : Nat} (h : ∀ i j, i ≠ j → f i j = 0) (hd : ∀ i, i < n → 1 ≤ f i i ∧ f i i ≤ 2) (k : Nat) : k ≤ n → 0 ≤ dd f k ∧ dd f k ≤ 2 ^ k := by
  induction k with
  | zero => intro _; exact ⟨by show (0 : Rat) ≤ 1; grind, by rw [Rat.pow_zero]; exact Rat.le_refl⟩
  | succ k ih =>
    intro hk
    obtain ⟨h1, h2⟩ := ih (by omega)
    obtain ⟨h3, h4⟩ := hd k (by omega)
    have e : dd f (k + 1) = dd f k * f k k := by
      show dd f k * S f k k k = _
      rw [S_diag_row h k k k (Nat.le_refl _)]
    rw [e, Rat.pow_succ]
    have a1 := mul_le_left h1 h4
    have a2 := Rat.mul_nonneg h1 (show 0 ≤ f k k by grind)
    exact ⟨a2, by grind⟩
theorem diag_gm {n : Nat} {a : List (List Int)} (n1 : 1 ≤ n) (n8 : n ≤ 8) (len : a.length = n) (all : AllLen a n) (hoff : ∀ i j, i ≠ j → ent a i j = 0) (hd : ∀ i, i < n → 1 ≤ ent a i i ∧ ent a i i ≤ 2) : Gm n a := by
  have ho : ∀ i j, i ≠ j → ofZ (ent a) i j = 0 := fun i j hij => by
    show ((ent a i j : Int) : Rat) = 0
    rw [hoff i j hij]; rfl
  have hd' : ∀ i, i < n → 1 ≤ ofZ (ent a) i i ∧ ofZ (ent a) i i ≤ 2 := fun i hi => by
    obtain ⟨h1, h2⟩ := hd i hi
    exact ⟨Rat.intCast_le_intCast.2 h1, Rat.intCast_le_intCast.2 h2⟩
  have hp : Pos (ofZ (ent a)) n := fun l hl => by
    rw [S_diag_row ho l l l (Nat.le_refl _)]
    have := (hd' l hl).1
    grind
  refine ⟨n1, n8, len, all, fun i j _ _ => ?_, hp, ?_, fun i j => ?_⟩
  · by_cases e : i = j
    · rw [e]
    · rw [hoff i j e, hoff j i (fun h => e h.symm)]
  · obtain ⟨t, rfl⟩ : ∃ t, n = t + 1 := ⟨n - 1, by omega⟩
    rw [Nat.add_sub_cancel]
    have h3 := (E_eq (ent a) t (hp.le (by omega)).piv).1 t t
    have h4 := (dd_diag_le ho hd' (t + 1) (Nat.le_refl _)).2
    have e : dd (ofZ (ent a)) (t + 1) = dd (ofZ (ent a)) t * S (ofZ (ent a)) t t t := rfl
    rw [e, ← h3] at h4
    have h5 : (2 : Rat) ^ (t + 1) ≤ 2 ^ 8 := pow_mono' (by grind) n8
    have h6 : (2 : Rat) ^ 8 = 256 := by rfl
    have h7 : ((E (ent a) t t t : Int) : Rat) ≤ ((10000 : Int) : Rat) := by
      simp only [Rat.intCast_ofNat]
      grind
    exact Rat.intCast_le_intCast.1 h7
  · by_cases e : i = j
    · subst e
      by_cases hi : i < n
      · obtain ⟨h1, h2⟩ := hd i hi
        refine Bd.mono (k := 2) ?_ (by omega)
        unfold Bd
        have : (2 : Nat) ^ 2 = 4 := rfl
        omega
      · rw [ent_out all (by rw [len]; omega)]; exact Bd.zero _
    · rw [hoff i j e]; exact Bd.zero _
theorem val_gm {n : Nat} {a : List (List Int)} (n1 : 1 ≤ n) (n8 : n ≤ 8) (len : a.length = n) (all : AllLen a n) (hs : ∀ i, i < n → ∀ j, j < i → ent a i j = ent a j i) (hl : ∀ x ∈ leadF a, 0 < x) (hdet : detF a ≤ 10000) (hb : BdM 199 a) : Gm n a := by
  have hp : Pos (ofZ (ent a)) n := by have := lead_pos.1 hl; rwa [len] at this
  refine ⟨n1, n8, len, all, fun i j hi hj => ?_, hp, ?_, hb⟩
  · rcases Nat.lt_trichotomy i j with h | h | h
    · exact (hs j hj i h).symm
    · rw [h]
    · exact hs i hi j h
  · rw [det_E (by omega) (fun l hl => by have := E_pos hp (k := l) (by omega); omega), len] at hdet
    exact hdet
end Go.Proofs.YtjehjkipcaohpaaGreat
namespace Go.Proofs.YtjehjkipcaohpaaGreat
theorem gcd_step (x y : Int) : (Int.gcd y (x % y) : Int) = Int.gcd x y := by
  rw [Int.emod_def, Int.gcd_sub_mul_left_right, Int.gcd_comm]
theorem gcd_done (x : Int) (hx : 0 ≤ x) : (Int.gcd x 0 : Int) = x := by
  rw [Int.gcd_zero_right]; omega
theorem gcd_abs (a b : Int) : Int.gcd (a.natAbs : Int) (b.natAbs : Int) = Int.gcd a b := by
  simp [Int.gcd]
/-- p / q is num / den. -/
structure RatOf (num den p q : Int) : Prop where
  pos : 0 < q
  eq : p * den = num * q
  le1 : p.natAbs ≤ num.natAbs
  le2 : q.natAbs ≤ den.natAbs
theorem gcd_pos_of {num den : Int} (hd : den ≠ 0) : 0 < (Int.gcd num den : Int) := by
  have : Int.gcd num den ≠ 0 := fun h => hd (Int.gcd_eq_zero_iff.1 h).2
  omega
theorem RatOf.new {num den : Int} (hd : 0 < den) : RatOf num den (num / Int.gcd num den) (den / Int.gcd num den) := by
  have hg := gcd_pos_of (num := num) (by omega : den ≠ 0)
  obtain ⟨a, ha⟩ := Int.gcd_dvd_left (a := num) (b := den)
  obtain ⟨b, hb⟩ := Int.gcd_dvd_right (a := num) (b := den)
  generalize (Int.gcd num den : Int) = g at *
  have e1 : num / g = a := by rw [ha]; exact Int.mul_ediv_cancel_left _ (by omega)
  have e2 : den / g = b := by rw [hb]; exact Int.mul_ediv_cancel_left _ (by omega)
  refine ⟨?_, ?_, Int.natAbs_ediv_le_natAbs _ _, Int.natAbs_ediv_le_natAbs _ _⟩
  · rw [e2]
    rw [hb] at hd
    exact Int.pos_of_mul_pos_right hd (by omega)
  · rw [e1, e2, ha, hb]; grind
theorem ediv_cross {a b c d : Int} (hb : 0 < b) (hd : 0 < d) (h : a * d = c * b) : a / b = c / d := by
  have h1 : a / b = (a * d) / (b * d) := (Int.mul_ediv_mul_of_pos_left a b hd).symm
  have h2 : c / d = (c * b) / (d * b) := (Int.mul_ediv_mul_of_pos_left c d hb).symm
  rw [h1, h2, h, Int.mul_comm b d]
/-- The nearest integer: floor of lam / d + 1/2. -/
theorem nearest_eq {lam d p q s t : Int} (hd : 0 < d) (h1 : RatOf lam d p q) (ht : 0 < t) (hs : s * (2 * q) = (2 * p + q) * t) : s / t = (2 * lam + d) / (2 * d) := by
  have hq := h1.pos
  have e := h1.eq
  have h2 : s / t = (2 * p + q) / (2 * q) := ediv_cross ht (by omega) hs
  have h3 : (2 * p + q) / (2 * q) = (2 * lam + d) / (2 * d) := ediv_cross (by omega) (by omega) (by grind)
  rw [h2, h3]
end Go.Proofs.YtjehjkipcaohpaaGreat
namespace Go.Proofs.YtjehjkipcaohpaaGreat
open Go.RowKit
/-- Block b holds the cells cs of element type T. -/
class BlkAt (b : Nat) (cs : outParam (Array Value)) (T : outParam TypeId) (w : World) : Prop where
  eq : w.heap[b]? = some (.cells cs T (0, 0))
instance BlkAt.new (w : World) (n : Nat) (cs : Array Value) (T : TypeId) [h : Sz w n] : BlkAt n cs T (w.alloc (.cells cs T)) := ⟨by rw [← h.eq]; exact heap_alloc_new w _⟩
instance (priority := 900) BlkAt.alloc (w : World) (b : Nat) (cs : Array Value) (T : TypeId) (o : Obj) [h : BlkAt b cs T w] : BlkAt b cs T (w.alloc o) := ⟨(Below.heap_alloc w o b (lt_of_heap h.eq)).trans h.eq⟩
instance BlkAt.drew (w : World) (b : Nat) (cs : Array Value) (T : TypeId) [h : BlkAt b cs T w] : BlkAt b cs T w.drew := ⟨h.eq⟩
instance BlkAt.drewN (w : World) (b k : Nat) (cs : Array Value) (T : TypeId) [h : BlkAt b cs T w] : BlkAt b cs T (w.drewN k) := ⟨h.eq⟩
instance (priority := 50) BlkAt.step (W w' : World) (b : Nat) (cs : Array Value) (T : TypeId) [s : Step W w'] [h : BlkAt b cs T W] : BlkAt b cs T w' := ⟨heap_of_ext s.ext h.eq⟩
instance BlkAt.set (w : World) (b i : Nat) (cs : Array Value) (T : TypeId) (u : Value) [h : BlkAt b cs T w] : BlkAt b (cs.setIfInBounds i u) T (w.setCell ⟨b, i, none⟩ u) := ⟨heap_setCell_self h.eq u⟩
instance (priority := 900) BlkAt.far (w : World) (b b' i : Nat) (cs : Array Value) (T : TypeId) (u : Value) [h : BlkAt b cs T w] [ha : Apart b b'] : BlkAt b cs T (w.setCell ⟨b', i, none⟩ u) := ⟨heap_setCell_far h.eq ha.ne u⟩
instance Apart.s1 (n : Nat) : Apart n (n + 1) := ⟨by omega⟩
instance Apart.s1' (n : Nat) : Apart (n + 1) n := ⟨by omega⟩
instance Apart.s2 (n : Nat) : Apart n (n + 1 + 1) := ⟨by omega⟩
instance Apart.s2' (n : Nat) : Apart (n + 1 + 1) n := ⟨by omega⟩
instance Apart.s3 (n : Nat) : Apart n (n + 1 + 1 + 1) := ⟨by omega⟩
instance Apart.s3' (n : Nat) : Apart (n + 1 + 1 + 1) n := ⟨by omega⟩
/-- Boxes with an integer of any size. -/
def Box (w : World) (b : Nat) (z : Int) : Prop := ∃ g B n c, w.heap[b]? = some (.cells #[.bool g, .slice B n c] 148 (0, 0)) ∧ IntV w g B n c z
section
variable {w w' : World} {b b' : Nat} {z : Int}
theorem Box.ext (h : Box w b z) (hx : Ext w w') : Box w' b z := by
  obtain ⟨g, B, n, c, h1, h2⟩ := h
  exact ⟨g, B, n, c, heap_of_ext hx h1, h2.ext hx⟩
theorem Box.lt (h : Box w b z) : b < w.heap.size := by
  obtain ⟨g, B, n, c, h1, h2⟩ := h
  exact lt_of_heap h1
theorem Box.cells (h : Box w b z) : ∃ g B n c, w.heap[b]? = some (.cells #[.bool g, .slice B n c] 148 (0, 0)) ∧ w.cell? ⟨b, 0, none⟩ = some (.bool g) ∧ w.cell? ⟨b, 1, none⟩ = some (.slice B n c) ∧ w.frozen? ⟨b, 0, none⟩ = false ∧ w.frozen? ⟨b, 1, none⟩ = false ∧ b < w.heap.size ∧ IntV w g B n c z := by
  obtain ⟨g, B, n, c, h1, h2⟩ := h
  obtain ⟨a1, a2, a3, a4, a5⟩ := box_cells2 h1
  exact ⟨g, B, n, c, h1, a1, a2, a3, a4, a5, h2⟩
theorem Box.put {g : Bool} {B : Option Addr} {n c : Nat} {x y : Value} (h : w.heap[b]? = some (.cells #[x, y] 148 (0, 0))) (hz : IntV w g B n c z) : Box ((w.setCell ⟨b, 0, none⟩ (.bool g)).setCell ⟨b, 1, none⟩ (.slice B n c)) b z := by
  refine ⟨g, B, n, c, ?_, hz.boxed (by decide) h _ _⟩
  exact box_set2_1 (box_set2_0 h)
theorem Box.far {cs : Array Value} (h : Box w b z) (h' : w.heap[b']? = some (.cells cs 148 (0, 0))) (hne : b ≠ b') (i j : Nat) (u v : Value) : Box ((w.setCell ⟨b', i, none⟩ u).setCell ⟨b', j, none⟩ v) b z := by
  obtain ⟨g, B, n, c, h1, h2⟩ := h
  refine ⟨g, B, n, c, heap_setCell_far (heap_setCell_far h1 hne u) hne v, ?_⟩
  exact (h2.setCell (p := ⟨b', i, none⟩) h' (by decide) u).setCell (p := ⟨b', j, none⟩) (heap_setCell_self h' u) (by decide) v
theorem Box.oth {T : TypeId} (h : Box w b z) (ho : Oth T w w') (h1 : 148 ≠ T) (h2 : 244 ≠ T) : Box w' b z := by
  obtain ⟨g, B, n, c, a1, a2⟩ := h
  exact ⟨g, B, n, c, ho _ _ _ _ h1 a1, a2.oth ho h2⟩
end
end Go.Proofs.YtjehjkipcaohpaaGreat

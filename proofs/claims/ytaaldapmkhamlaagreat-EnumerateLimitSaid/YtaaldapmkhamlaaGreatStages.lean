/-
  Contract of bareiss.Stages.
-/
import Derived.Test.YtaaldapmkhamlaaGreatCross
namespace Go.Proofs.YtaaldapmkhamlaaGreat
open Go.RowKit
/-- The numbers of one step of the elimination are below 2^64. -/
def CrossOK (last : Int) (b : List (List Int)) (i j : Nat) : Prop :=
  (ent b 0 0).natAbs < 18446744073709551616 ∧ (ent b (i + 1) 0).natAbs < 18446744073709551616 ∧ (ent b 0 (j + 1)).natAbs < 18446744073709551616 ∧ (ent b (i + 1) (j + 1)).natAbs < 18446744073709551616 ∧
  (ent b 0 0 * ent b (i + 1) (j + 1)).natAbs < 18446744073709551616 ∧ (ent b (i + 1) 0 * ent b 0 (j + 1)).natAbs < 18446744073709551616 ∧
  (ent b 0 0 * ent b (i + 1) (j + 1) - ent b (i + 1) 0 * ent b 0 (j + 1)).natAbs < 18446744073709551616 ∧ last ≠ 0 ∧ last.natAbs < 18446744073709551616

set_option maxRecDepth 10000 in
set_option maxHeartbeats 1000000 in
theorem Stages2_any {w0 w : World} {A : Option Addr} {c : Nat} {m : List (List Int)} {pb lb n : Nat} {gl : Bool} {Bl : Option Addr} {kl dl : Nat} {last : Int} (h : MatV w0 A m) (hl : IntV w0 gl Bl kl dl last) (hn : AllLen m n) (hm : m.length = n) (hn16 : n ≤ 16) (i j : Nat) (hi : i + 1 < n) (hj : j + 1 < n) (hok : CrossOK last m i j)
    (hp : w.cell? ⟨pb, 0, none⟩ = some (.slice A m.length c)) (hpb : pb < w.heap.size) (hl1 : w.cell? ⟨lb, 0, none⟩ = some (.bool gl)) (hl2 : w.cell? ⟨lb, 1, none⟩ = some (.slice Bl kl dl)) (hlb : lb < w.heap.size) [hx : Ext w0 w] :
    Calls Tryz.prog 141 #[.int .i64 i, .int .i64 j, .pointer (some ⟨pb, 0, none⟩), .pointer (some ⟨lb, 0, none⟩)] w (RetInt w ((ent m 0 0 * ent m (i + 1) (j + 1) - ent m (i + 1) 0 * ent m 0 (j + 1)) / last)) := by
  have h0 := h.ext hx
  obtain ⟨b, o, b1, o1, c1, g1, B1, k1, d1, rfl, e1, e2, e3, hV1, f1, f2, f3, f4⟩ := h0.ent_ (i := 0) (j := 0) hn (by omega) (by omega)
  obtain ⟨b', o', b2, o2, c2, g2, B2, k2, d2, hA, e4, e5, e6, hV2, f5, f6, f7, f8⟩ := h0.ent_ (i := i + 1) (j := 0) hn (by omega) (by omega)
  injection hA with hA
  injection hA with x1 x2
  subst x1 x2
  obtain ⟨b', o', b3, o3, c3, g3, B3, k3, d3, hA, e7, e8, e9, hV3, f9, f10, f11, f12⟩ := h0.ent_ (i := 0) (j := j + 1) hn (by omega) (by omega)
  injection hA with hA
  injection hA with x1 x2
  subst x1 x2
  rw [e1] at e7
  injection e7 with e7
  injection e7 with x1 x2 x3
  injection x1 with x1
  injection x1 with x1 x4
  subst x1 x4 x3
  obtain ⟨b', o', b4, o4, c4, g4, B4, k4, d4, hA, e10, e11, e12, hV4, f13, f14, f15, f16⟩ := h0.ent_ (i := i + 1) (j := j + 1) hn (by omega) (by omega)
  injection hA with hA
  injection hA with x1 x2
  subst x1 x2
  rw [e4] at e10
  injection e10 with e10
  injection e10 with x1 x2 x3
  injection x1 with x1
  injection x1 with x1 x4
  subst x1 x4 x3
  simp only [Nat.add_zero, Nat.zero_mul] at e1 e2 e3 e5 e6
  have w1 : IntKind.i64.wrap ((i : Int) + 1) = (i : Int) + 1 := by rw [IntKind.wrap_i64]; omega
  have w2 : IntKind.i64.wrap ((j : Int) + 1) = (j : Int) + 1 := by rw [IntKind.wrap_i64]; omega
  have w3 : ((i : Int) + 1).toNat = i + 1 := by omega
  have w4 : ((j : Int) + 1).toNat = j + 1 := by omega
  have w5 : (0 : Int) ≤ (i : Int) + 1 := by omega
  have w6 : (0 : Int) ≤ (j : Int) + 1 := by omega
  have w7 : (i : Int) + 1 < (n : Int) := by omega
  have w8 : (j : Int) + 1 < (n : Int) := by omega
  have w9 : (0 : Int) < (n : Int) := by omega
  have w10 : 0 < n := by omega
  have oa : Old b w := ⟨f3⟩
  have ob : Old b1 w := ⟨f4⟩
  have oc : Old b2 w := ⟨f8⟩
  have od : Old pb w := ⟨hpb⟩
  have oe : Old lb w := ⟨hlb⟩
  obtain ⟨k01, k02, k03, k04, k05, k06, k07, k08, k09⟩ := hok
  rw [hm] at hp
  have HS := Lib.hid (show w.cell? ⟨pb, 0, none⟩ = some (.slice (some ⟨b, o, none⟩) n c) ∧ w.cell? ⟨b, o, none⟩ = some (.slice (some ⟨b1, o1, none⟩) n c1) ∧ w.cell? ⟨b, o + (i + 1), none⟩ = some (.slice (some ⟨b2, o2, none⟩) n c2) ∧ w.cell? ⟨b1, o1, none⟩ = some (.bool g1) ∧ w.cell? ⟨b1, o1 + 1, none⟩ = some (.slice B1 k1 d1) ∧ w.cell? ⟨b2, o2, none⟩ = some (.bool g2) ∧ w.cell? ⟨b2, o2 + 1, none⟩ = some (.slice B2 k2 d2) ∧ w.cell? ⟨b1, o1 + (j + 1) * 2, none⟩ = some (.bool g3) ∧ w.cell? ⟨b1, o1 + (j + 1) * 2 + 1, none⟩ = some (.slice B3 k3 d3) ∧ w.cell? ⟨b2, o2 + (j + 1) * 2, none⟩ = some (.bool g4) ∧ w.cell? ⟨b2, o2 + (j + 1) * 2 + 1, none⟩ = some (.slice B4 k4 d4) ∧ w.cell? ⟨lb, 0, none⟩ = some (.bool gl) ∧ w.cell? ⟨lb, 1, none⟩ = some (.slice Bl kl dl) from ⟨hp, e1, e4, e2, e3, e5, e6, e8, e9, e11, e12, hl1, hl2⟩)
  clear hp e1 e4 e2 e3 e5 e6 e8 e9 e11 e12 hl1 hl2 h0
  have HN := Lib.hid hn
  have HM := Lib.hid hm
  clear hn hm
  go_enter Tryz.func141, Tryz.ntmps141
  go_wp2
  go_region_held3 (fun w' => w'.cell? ⟨pb, 0, none⟩ = some (.slice (some ⟨b, o, none⟩) n c) ∧ w'.cell? ⟨b, o, none⟩ = some (.slice (some ⟨b1, o1, none⟩) n c1) ∧ w'.cell? ⟨b, o + (i + 1), none⟩ = some (.slice (some ⟨b2, o2, none⟩) n c2) ∧ w'.cell? ⟨b1, o1, none⟩ = some (.bool g1) ∧ w'.cell? ⟨b1, o1 + 1, none⟩ = some (.slice B1 k1 d1) ∧ w'.cell? ⟨b2, o2, none⟩ = some (.bool g2) ∧ w'.cell? ⟨b2, o2 + 1, none⟩ = some (.slice B2 k2 d2) ∧ w'.cell? ⟨b1, o1 + (j + 1) * 2, none⟩ = some (.bool g3) ∧ w'.cell? ⟨b1, o1 + (j + 1) * 2 + 1, none⟩ = some (.slice B3 k3 d3) ∧ w'.cell? ⟨b2, o2 + (j + 1) * 2, none⟩ = some (.bool g4) ∧ w'.cell? ⟨b2, o2 + (j + 1) * 2 + 1, none⟩ = some (.slice B4 k4 d4) ∧ w'.cell? ⟨lb, 0, none⟩ = some (.bool gl) ∧ w'.cell? ⟨lb, 1, none⟩ = some (.slice Bl kl dl))
    ((simp only [cellE w]; exact HS.out))
    (first
      | (go_at_call 142; refine (cross_small hV1 hV2 hV3 hV4 hl k01 k02 k03 k04 k05 k06 k07 k08 k09).mono ?_; rintro e wz ⟨gz, Bz, kz, dz, rfl, hz, hsz⟩))
  go_wp2
  exact bodyPost_ret (v := .agg #[.bool gz, .slice Bz kz dz]) (by simp [results, Tryz.results141, go_sem]) rfl ⟨_, _, _, _, rfl, hz.keeps, Step.of _ _⟩
/-- The next stage of the elimination. -/
def nextSt (last : Int) (b : List (List Int)) : List (List Int) := tab (fun i j => (ent b 0 0 * ent b (i + 1) (j + 1) - ent b (i + 1) 0 * ent b 0 (j + 1)) / last) (b.length - 1) (b.length - 1)
/-- The divisor of stage k, and stage k. -/
def stAt (m : List (List Int)) : Nat → Int × List (List Int)
  | 0 => (1, m)
  | k + 1 => (ent (stAt m k).2 0 0, nextSt (stAt m k).1 (stAt m k).2)
theorem tab_allLen (F : Nat → Nat → Int) (r c : Nat) : AllLen (tab F r c) c := by
  intro x hx
  simp only [tab, List.mem_map] at hx
  obtain ⟨i, _, rfl⟩ := hx
  simp
theorem stAt_length (m : List (List Int)) : ∀ k, (stAt m k).2.length = m.length - k
  | 0 => rfl
  | k + 1 => by simp only [stAt, nextSt]; rw [tab_length, stAt_length m k]; omega
theorem stAt_allLen (m : List (List Int)) (hn : AllLen m m.length) : ∀ k, AllLen (stAt m k).2 (m.length - k)
  | 0 => hn
  | k + 1 => by
    have h := tab_allLen (fun i j => (ent (stAt m k).2 0 0 * ent (stAt m k).2 (i + 1) (j + 1) - ent (stAt m k).2 (i + 1) 0 * ent (stAt m k).2 0 (j + 1)) / (stAt m k).1) ((stAt m k).2.length - 1) ((stAt m k).2.length - 1)
    rw [stAt_length] at h
    simp only [stAt, nextSt]
    rw [stAt_length, show m.length - (k + 1) = m.length - k - 1 by omega]
    exact h
/-- All numbers of the elimination are small, and its pivots are not 0. -/
structure ElimOK (m : List (List Int)) : Prop where
  small : ∀ i j, i < m.length → j < m.length → (ent m i j).natAbs < 18446744073709551616
  pivot : ∀ k, k + 1 < m.length → ent (stAt m k).2 0 0 ≠ 0
  cross : ∀ k i j, i + 1 < m.length - k → j + 1 < m.length - k → CrossOK (stAt m k).1 (stAt m k).2 i j
def stagesOf (m : List (List Int)) : List (List (List Int)) := (List.range m.length).map fun k => (stAt m k).2
/-- Stages and a bool are returned. -/
def RetStB (w : World) (s : List (List (List Int))) (b : Bool) (e : Ending) (w' : World) : Prop := ∃ A c, e = .returned (.tuple #[.slice A s.length c, .bool b]) ∧ StV w' A s ∧ s.length ≤ c ∧ c ≤ 9223372036854775807 ∧ Step w w'
theorem isFn_Stages1 : IsFn 138 := isFn_of Tryz.func138 (by kernel_rfl) (by kernel_rfl)
theorem isFn_Stages2 : IsFn 141 := isFn_of Tryz.func141 (by kernel_rfl) (by kernel_rfl)
theorem tab_ent (m : List (List Int)) (n : Nat) (hn : AllLen m n) : tab (ent m) m.length n = m := tab_eq m n hn

/-- The list of the stages so far. -/
def Sofar (w : World) (base L : Nat) (m : List (List Int)) (A : Option Addr) (k c : Nat) : Prop :=
  ∃ hd : List Value, Own w base 160 1 A k c hd ∧ ∀ i, i < k → ∃ B d, hd[i]? = some (.slice B (m.length - i) d) ∧ MatX (· ≠ L) w B (stAt m i).2 ∧ m.length - i ≤ d ∧ d ≤ 9223372036854775807
theorem Sofar.ext {w w' : World} {base L : Nat} {m : List (List Int)} {A : Option Addr} {k c : Nat} (h : Sofar w base L m A k c) (hx : Ext w w') : Sofar w' base L m A k c := by
  obtain ⟨hd, h1, h2⟩ := h
  refine ⟨hd, h1.ext hx, fun i hi => ?_⟩
  obtain ⟨B, d, a1, a2, a3⟩ := h2 i hi
  exact ⟨B, d, a1, a2.ext hx, a3⟩
theorem Grow.heap {w w' : World} {base : Nat} {e e' : TypeId} (h : Grow base e w w') {b : Nat} {cs : Array Value} {fr : Nat × Nat} (hb : w.heap[b]? = some (.cells cs e' fr)) (hne : e' ≠ e) : w'.heap[b]? = some (.cells cs e' fr) :=
  (h.typed b (lt_of_heap hb) fun cs' fr' hh => by rw [hb] at hh; injection hh with hh; injection hh with _ he; exact hne he).trans hb
theorem Sofar.put {w W w' : World} {base L : Nat} {m : List (List Int)} {A A' B : Option Addr} {k c c' d : Nat} {hd : List Value} (hown : Own w base 160 1 A k c hd)
    (hhd : ∀ i, i < k → ∃ B d, hd[i]? = some (.slice B (m.length - i) d) ∧ MatX (· ≠ L) w B (stAt m i).2 ∧ m.length - i ≤ d ∧ d ≤ 9223372036854775807)
    (hM : MatX (· ≠ L) w B (stAt m k).2) (hd1 : m.length - k ≤ d) (hd2 : d ≤ 9223372036854775807) (hx : Ext w W) (hg : Grow base 160 W w') (hown' : Own w' base 160 1 A' (k + 1) c' (hd ++ [.slice B (m.length - k) d])) : Sofar w' base L m A' (k + 1) c' := by
  have hlen : hd.length = k := by have := hown.len; omega
  refine ⟨_, hown', fun i hi => ?_⟩
  rcases Nat.lt_or_ge i k with h | h
  · obtain ⟨B', d', a1, a2, a3⟩ := hhd i h
    exact ⟨B', d', by rw [List.getElem?_append_left (by omega)]; exact a1, (a2.ext hx).grow hg (by decide) (by decide) (by decide), a3⟩
  · obtain rfl : i = k := by omega
    exact ⟨B, d, by rw [List.getElem?_append_right (by omega), hlen]; simp, (hM.ext hx).grow hg (by decide) (by decide) (by decide), hd1, hd2⟩
theorem Sofar.setBox {w : World} {base L : Nat} {m : List (List Int)} {A : Option Addr} {k c : Nat} (h : Sofar w base L m A k c) {cs : Array Value} {fr : Nat × Nat} (hL : w.heap[L]? = some (.cells cs 158 fr)) (i : Nat) (u : Value) : Sofar (w.setCell ⟨L, i, none⟩ u) base L m A k c := by
  obtain ⟨hd, ⟨h1, h1'⟩, h2⟩ := h
  refine ⟨hd, ⟨h1, ?_⟩, fun i hi => ?_⟩
  · rcases h1' with hv | ⟨g, cap, cur, hv, a1, a2, a3⟩
    · exact .inl hv
    · refine .inr ⟨g, cap, cur, hv, a1, ?_, a3⟩
      refine (Below.heap_setCell w ⟨L, i, none⟩ u g (fun hh => ?_)).trans a2
      have hh' : g = L := hh
      rw [hh'] at a2
      rw [hL] at a2
      injection a2 with a2
      injection a2 with _ he
      exact absurd he (by decide)
  · obtain ⟨B, d, a1, a2, a3⟩ := h2 i hi
    exact ⟨B, d, a1, a2.setBox hL _ _, a3⟩

set_option maxRecDepth 10000 in
set_option maxHeartbeats 2000000 in
theorem Stages_ok {w0 w : World} {A : Option Addr} {c : Nat} {m : List (List Int)} (h : MatV w0 A m) (h1 : 1 ≤ m.length) (h2 : m.length ≤ 16) (hn : AllLen m m.length) (hok : ElimOK m) [hx : Ext w0 w] :
    Calls Tryz.prog 99 #[.slice A m.length c] w (RetStB w (stagesOf m) true) := by
  have htab := table_any (w := w.alloc (.cells #[.slice A m.length c] 160)) 138 #[.pointer (some ⟨w.heap.size, 0, none⟩)] m.length m.length (by omega) (by omega) h1 isFn_Stages1 (ent m)
    (fun i j W hi hj hW => by
      obtain ⟨-, a1, a2, a3⟩ := box1At w W w.heap.size (.slice A m.length c) 160 rfl
      have : Ext w W := Ext.trans inferInstance hW
      have : Ext w0 W := hx.trans this
      exact Stages1_any h hn i j hi hj (hok.small i j hi hj) a1 a3)
  rw [tab_ent m _ hn] at htab
  have HT := Lib.hid htab
  have HO := Lib.hid hok
  have HN := Lib.hid hn
  clear htab hok
  go_enter Tryz.func99, Tryz.ntmps99
  go_wp2_with fail
  go_step3
  go_wp2_with fail
  refine (square_ok h h1 h2 hn).mono ?_
  rintro e w' ⟨rfl, rfl⟩
  clear hn
  go_wp2_with fail
  refine HT.out.mono ?_
  rintro e w1 ⟨A1, c1, rfl, hm1, hc1, hc2, hs1⟩
  go_wp2_with fail
  refine (Small_any 1 (by omega) (by omega) _).mono ?_
  rintro e w2 ⟨g2, B2, k2, d2, rfl, hz2, hs2⟩
  have hmX : MatX (· ≠ w2.heap.size) (w2.alloc (.cells #[.bool g2, .slice B2 k2 d2] 158)) A1 (stAt m 0).2 := ((hm1.mat.ext hs2.ext).old.mono (fun b hb => by omega)).ext inferInstance
  go_wp2
  go_step3
  go_wp2
  go_loopw [6, 8, 9, 10, 24] (fun s6 s8 _ _ i wr => ∃ (k : Nat) (A c : _) (Al : Option Addr) (cl : Nat) (gl : Bool) (Bl : Option Addr) (kl dl : Nat), k < m.length ∧ i = .int .i64 k ∧ s6 = .slice A (m.length - k) c ∧ MatX (· ≠ w2.heap.size) wr A (stAt m k).2 ∧ m.length - k ≤ c ∧ c ≤ 9223372036854775807 ∧ s8 = .slice Al k cl ∧ Sofar wr w.heap.size w2.heap.size m Al k cl ∧ wr.heap[w2.heap.size]? = some (.cells #[.bool gl, .slice Bl kl dl] 158 (0, 0)) ∧ IntV wr gl Bl kl dl (stAt m k).1 ∧ Ext w wr) (fun _ _ _ _ i _ => m.length - (intOf i).toNat)
  case atStart =>
    refine ⟨0, A1, c1, none, 0, g2, B2, k2, d2, by omega, rfl, rfl, hmX, by omega, hc2, rfl, ⟨[], Own.nil _ _ _ _, fun i hi => absurd hi (by omega)⟩, heap_alloc_new w2 _, hz2.ext inferInstance, inferInstance⟩
  case round =>
    obtain ⟨k, A2, c2, Al, cl, gl, Bl, kl, dl, hk, rfl, rfl, hM, hcc1, hcc2, rfl, hS, hL, hI, hxr⟩ := hrel
    obtain ⟨wo, rfl⟩ : ∃ wo : World, wo = wr := ⟨_, rfl⟩
    have HL := Lib.hid hL
    clear hL
    obtain ⟨hd, hown, hhd⟩ := id hS
    have HH := Lib.hid hhd
    clear hhd hS
    have hsrc := Arr.new wo 160 #[.slice A2 (m.length - k) c2]
    by_cases hlast : k = m.length - 1
    · have HLast := Lib.hid hlast
      have hlb : ((k : Int) == (m.length : Int) - 1) = true := by simp; omega
      clear hlast
      go_wp2_with (at_builtin; refine wpList_app _ rfl _ _ 151 rfl w.heap.size 160 (.slice none 0 0) 1 24 Tryz.underlying151 infoSlSlInt rfl (by omega) (by omega) Al k cl hd rfl (hown.ext inferInstance) _ 1 1 [.slice A2 (m.length - k) c2] rfl hsrc (by simp) (by simp [Value.oneCell']) (by omega) (by have := hxr.size; simp; omega) ?_; intro A3 c3 w3 hown3 hg3)
      go_ret2
      have hS3 := Sofar.put hown HH.out hM hcc1 hcc2 (inferInstance : Ext wo (wo.alloc (.cells #[.slice A2 (m.length - k) c2] 160))) hg3 hown3
      have hk1 : k + 1 = m.length := by have := HLast.out; omega
      rw [hk1] at hS3 ⊢
      have hcap := hown3.cap
      have hlen : (stagesOf m).length = m.length := by simp [stagesOf]
      have hxx : Ext w w3 := hg3.ext inferInstance (Nat.le_refl _)
      refine ⟨A3, c3, by rw [hlen]; rfl, ?_, by omega, by omega, hxx.toStep⟩
      obtain ⟨hd', ho', hh'⟩ := hS3
      refine ⟨hd', by rw [hlen]; simpa using ho'.len, ho'.arr, fun i r hr => ?_⟩
      have hi : i < m.length := by
        rcases Nat.lt_or_ge i m.length with hi | hi
        · exact hi
        · rw [List.getElem?_eq_none (by omega)] at hr; cases hr
      have hr' : r = (stAt m i).2 := by simp [stagesOf, hi] at hr; exact hr.symm
      subst hr'
      obtain ⟨B, d, a1, a2, a3, a4⟩ := hh' i hi
      rw [stAt_length]
      exact ⟨B, d, a1, a2.mat, a3, a4⟩
    · have hlb : ((k : Int) == (m.length : Int) - 1) = false := by simp; omega
      have hk1 : k + 1 < m.length := by omega
      clear hlast
      have hpiv := HO.out.pivot k hk1
      have hsg : (cmpI (ent (stAt m k).2 0 0) 0 == 0) = false := by unfold cmpI; split <;> simp_all
      go_wp2_with (first
        | (at_builtin; refine wpList_app _ rfl _ _ 151 rfl w.heap.size 160 (.slice none 0 0) 1 24 Tryz.underlying151 infoSlSlInt rfl (by omega) (by omega) Al k cl hd rfl (hown.ext inferInstance) _ 1 1 [.slice A2 (m.length - k) c2] rfl hsrc (by simp) (by simp [Value.oneCell']) (by omega) (by have := hxr.size; simp; omega) ?_; intro A3 c3 w3 hown3 hg3; have hM3 := (hM.ext (inferInstance : Ext wo (wo.alloc (.cells #[.slice A2 (m.length - k) c2] 160)))).grow hg3 (by decide) (by decide) (by decide); have hL3 := Grow.heap hg3 (heap_of_ext (inferInstance : Ext wo (wo.alloc (.cells #[.slice A2 (m.length - k) c2] 160))) HL.out) (by decide); have hI3 := (hI.ext (inferInstance : Ext wo (wo.alloc (.cells #[.slice A2 (m.length - k) c2] 160)))).grow hg3 (by decide); have hS3 := Sofar.put hown HH.out hM hcc1 hcc2 (inferInstance : Ext wo (wo.alloc (.cells #[.slice A2 (m.length - k) c2] 160))) hg3 hown3; have hx3 : Ext w w3 := hg3.ext inferInstance (Nat.le_refl _); obtain ⟨b0, o0, b1, o1, c0, g0, B0, k0, d0, rfl, e1, e2, e3, hV0, f1, f2, f3, f4⟩ := hM3.mat.ent_ (i := 0) (j := 0) (stAt_allLen m HN.out k) (by rw [stAt_length]; omega) (by omega); simp only [Nat.add_zero, Nat.zero_mul] at e1 e2 e3; have ob0 : Old b0 w3 := ⟨f3⟩; have ob1 : Old b1 w3 := ⟨f4⟩; have HL3 := Lib.hid hL3; clear hL3)
        | (go_at_call 140; refine (Sign_any hV0).mono ?_; rintro e w4 ⟨rfl, hs4⟩)
        | fail)
      have hw34 : Ext w3 w4 := hs4.ext
      have hst : (stAt m k).2.length = m.length - k := stAt_length m k
      have htab2 := table_any (w := w4.alloc (.cells #[.slice (some ⟨b0, o0, none⟩) (m.length - k) c2] 160)) 141 #[.pointer (some ⟨w4.heap.size, 0, none⟩), .pointer (some ⟨w2.heap.size, 0, none⟩)] (m.length - k - 1) (m.length - k - 1) (by omega) (by omega) (by omega) isFn_Stages2
        (fun i j => (ent (stAt m k).2 0 0 * ent (stAt m k).2 (i + 1) (j + 1) - ent (stAt m k).2 (i + 1) 0 * ent (stAt m k).2 0 (j + 1)) / (stAt m k).1)
        (fun i j W hi hj hW => by
          obtain ⟨-, a1, a2, a3⟩ := box1At w4 W w4.heap.size (.slice (some ⟨b0, o0, none⟩) (m.length - k) c2) 160 rfl
          have hx4 : Ext w4 W := Ext.trans inferInstance hW
          have hx3 : Ext w3 W := hw34.trans hx4
          have hLW := heap_of_ext hx3 HL3.out
          refine Stages2_any (n := m.length - k) (c := c2) hM3.mat hI3 (stAt_allLen m HN.out k) hst (by omega) i j (by omega) (by omega) (HO.out.cross k i j (by omega) (by omega)) ?_ a3 ?_ ?_ (lt_of_heap hLW)
          · rw [hst]; exact a1
          · simp [World.cell?, hLW]
          · simp [World.cell?, hLW])
      rw [show ((m.length - k - 1 : Nat) : Int) = (m.length : Int) - (k : Int) - 1 by omega] at htab2
      have hnext : tab (fun i j => (ent (stAt m k).2 0 0 * ent (stAt m k).2 (i + 1) (j + 1) - ent (stAt m k).2 (i + 1) 0 * ent (stAt m k).2 0 (j + 1)) / (stAt m k).1) (m.length - k - 1) (m.length - k - 1) = (stAt m (k + 1)).2 := by
        simp only [stAt, nextSt]; rw [hst]
      rw [hnext] at htab2
      have HNX := Lib.hid hst
      clear hnext hst
      refine htab2.mono ?_
      clear htab2
      rintro e w5 ⟨A5, c5, rfl, hM5, hc51, hc52, hs5⟩
      rw [stAt_length] at hc51 ⊢
      have hx5 : Ext w3 w5 := inferInstance
      have hL5 := heap_of_ext hx5 HL3.out
      have oL : Old w2.heap.size w3 := ⟨lt_of_heap HL3.out⟩
      have q1 : w5.cell? ⟨w2.heap.size, 0, none⟩ = some (.bool gl) := by simp [World.cell?, hL5]
      have q2 : w5.cell? ⟨w2.heap.size, 1, none⟩ = some (.slice Bl kl dl) := by simp [World.cell?, hL5]
      have q3 : w5.frozen? ⟨w2.heap.size, 0, none⟩ = false := by simp [World.frozen?, hL5]
      have q4 : w5.frozen? ⟨w2.heap.size, 1, none⟩ = false := by simp [World.frozen?, hL5]
      have z5 : w2.heap.size < (w4.alloc (.cells #[.slice (some ⟨b0, o0, none⟩) (m.length - k) c2] 160)).heap.size := by
        have := lt_of_heap HL3.out
        have := hw34.size
        simp; omega
      have hMX : MatX (· ≠ w2.heap.size) w5 A5 (stAt m (k + 1)).2 := hM5.mono (fun b hb => by omega)
      have HL5 := Lib.hid hL5
      have hw2 : w.heap.size ≤ w2.heap.size := (inferInstance : Ext w w2).size
      clear hL5 z5
      go_wp2
      refine ⟨⟨k + 1, A5, c5, A3, c3, g0, B0, k0, d0, by omega, by go_num, rfl, ?_, ?_, hc52, rfl, ?_, ?_, ?_, ?_⟩, by simp [intOf] <;> omega⟩
      · exact (hMX.setBox HL5.out _ _).setBox (heap_setCell_self HL5.out _) _ _
      · omega
      · exact ((hS3.ext hx5).setBox HL5.out _ _).setBox (heap_setCell_self HL5.out _) _ _
      · rw [heap_setCell_self (heap_setCell_self HL5.out _)]; rfl
      · exact (hV0.ext hx5).boxed (by decide) HL5.out _ _
      · exact (((hx3.trans hx5).setCell (p := ⟨w2.heap.size, 0, none⟩) hw2 _).setCell (p := ⟨w2.heap.size, 1, none⟩) hw2 _)
end Go.Proofs.YtaaldapmkhamlaaGreat

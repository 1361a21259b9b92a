/-
  The contract of multiples of the package enumerate.
-/
import Derived.Test.YtaaldapmkhamlaaGreatUniq
import Derived.Test.YtaaldapmkhamlaaGreatSteps2
namespace Go.Proofs.YtaaldapmkhamlaaGreat
open Go.RowKit
theorem infoSlI64' : (Tryz.prog.info? 22).map (fun i => (i.zero, i.size, i.bytes)) = some (some (.slice none 0 0), 1, 24) := infoSlI64
/-- The multiples of a vector of length 1. -/
def multL (h bound : Int) (exact : Bool) (k : Nat) : List (List Int) := ((List.range k).filter fun (i : Nat) => !exact || decide (h * ((i : Int) + 1) * ((i : Int) + 1) = bound)).map fun (i : Nat) => [(i : Int) + 1]
theorem multL_succ_in (h bound : Int) (exact : Bool) (k : Nat) (hh : (!exact || decide (h * ((k : Int) + 1) * ((k : Int) + 1) = bound)) = true) : multL h bound exact (k + 1) = multL h bound exact k ++ [[(k : Int) + 1]] := by
  simp only [multL, List.range_succ, List.filter_append, List.map_append, List.filter_cons, hh, if_true, List.filter_nil, List.map_cons, List.map_nil]
theorem multL_succ_out (h bound : Int) (exact : Bool) (k : Nat) (hh : (!exact || decide (h * ((k : Int) + 1) * ((k : Int) + 1) = bound)) = false) : multL h bound exact (k + 1) = multL h bound exact k := by
  simp [multL, List.range_succ, List.filter_append, hh]
theorem multL_len (h bound : Int) (exact : Bool) (k : Nat) : (multL h bound exact k).length ≤ k := by
  unfold multL; rw [List.length_map]; have := List.length_filter_le (fun (i : Nat) => !exact || decide (h * ((i : Int) + 1) * ((i : Int) + 1) = bound)) (List.range k); simpa using this
def RetMatL (w : World) (m : List (List Int)) (e : Ending) (w' : World) : Prop := ∃ A c, e = .returned (.slice A m.length c) ∧ Mat64 w' A m ∧ m.length ≤ c ∧ c ≤ 9223372036854775807 ∧ Step w w'
/-- Rows of integers that a call makes, one by one. -/
structure MOwn (w : World) (base : Nat) (A : Option Addr) (n c : Nat) (m : List (List Int)) (vs : List Value) : Prop where
  own : Own w base 22 1 A n c vs
  len : m.length = n
  row : ∀ (i : Nat) (r : List Int), m[i]? = some r → ∃ B c, vs[i]? = some (.slice B r.length c) ∧ Ints w B 2 .i64 r ∧ r.length ≤ c ∧ c ≤ 9223372036854775807
theorem MOwn.nil (w : World) (base : Nat) : MOwn w base none 0 0 [] [] := ⟨Own.nil _ _ _ _, rfl, fun i r hr => by simp at hr⟩
theorem MOwn.mat {w : World} {base : Nat} {A : Option Addr} {n c : Nat} {m : List (List Int)} {vs : List Value} (h : MOwn w base A n c m vs) : Mat64 w A m :=
  ⟨vs, by have := h.own.len; rw [h.len]; omega, h.own.arr, h.row⟩
theorem MOwn.ext {w w' : World} {base : Nat} {A : Option Addr} {n c : Nat} {m : List (List Int)} {vs : List Value} (h : MOwn w base A n c m vs) (hx : Ext w w') : MOwn w' base A n c m vs :=
  ⟨h.own.ext hx, h.len, fun i r hr => by obtain ⟨B, d, a, b, e⟩ := h.row i r hr; exact ⟨B, d, a, b.ext hx, e⟩⟩
theorem MOwn.oth {w w' : World} {T : TypeId} {base : Nat} {A : Option Addr} {n c : Nat} {m : List (List Int)} {vs : List Value} (h : MOwn w base A n c m vs) (ho : Oth T w w') (h1 : 22 ≠ T) (h2 : 2 ≠ T) : MOwn w' base A n c m vs :=
  ⟨h.own.oth ho h1, h.len, fun i r hr => by obtain ⟨B, d, a, b, e⟩ := h.row i r hr; exact ⟨B, d, a, b.oth ho h2, e⟩⟩
/-- One row more, behind append. -/
theorem MOwn.snoc {w W w' : World} {base : Nat} {A A' B : Option Addr} {n c c' d : Nat} {m : List (List Int)} {r : List Int} {vs : List Value} (h : MOwn w base A n c m vs) (hx : Ext w W) (hg : Grow base 22 W w') (ho : Own w' base 22 1 A' (n + 1) c' (vs ++ [.slice B r.length d])) (hr : Ints W B 2 .i64 r) (h1 : r.length ≤ d) (h2 : d ≤ 9223372036854775807) : MOwn w' base A' (n + 1) c' (m ++ [r]) (vs ++ [.slice B r.length d]) := by
  have hvl : vs.length = m.length := by have := h.own.len; rw [h.len]; omega
  refine ⟨ho, by simp [h.len], fun i x hx' => ?_⟩
  rcases Nat.lt_or_ge i m.length with hi | hi
  · rw [List.getElem?_append_left hi] at hx'
    obtain ⟨B1, d1, a, b, e⟩ := h.row i x hx'
    exact ⟨B1, d1, by rw [List.getElem?_append_left (by omega)]; exact a, (b.ext hx).grow hg (by decide), e⟩
  · have hi' : i = m.length := by
      have := (List.getElem?_eq_some_iff.1 hx').1
      simp at this; omega
    subst hi'
    have : x = r := by simpa using hx'.symm
    subst this
    exact ⟨B, d, by rw [List.getElem?_append_right (by omega), hvl]; simp, hr.grow hg (by decide), h1, h2⟩
set_option maxHeartbeats 2000000 in
theorem multiples_any {w : World} {h bound : Int} {exact : Bool} (r : Nat) (h1 : 1 ≤ h) (hr : r ≤ 1073741824) (hin : ∀ x : Int, 1 ≤ x → x ≤ r → h * x * x ≤ bound) (hout : bound < h * ((r : Int) + 1) * ((r : Int) + 1)) (hfit : h * ((r : Int) + 1) * ((r : Int) + 1) ≤ 9223372036854775807) (hfit2 : h * ((r : Int) + 1) ≤ 9223372036854775807) :
    Calls Tryz.prog 54 #[.int .i64 h, .int .i64 bound, .bool exact] w (RetMatL w (multL h bound exact r)) := by
  go_enter Tryz.func54, Tryz.ntmps54
  go_wp2
  go_loopw [7, 8] (fun s7 s8 wr => ∃ (k : Nat) (x : Int) (n : Nat) (B : Option Addr) (c : Nat) (vs : List Value), k ≤ r ∧ Hid (x = (k : Int) + 1) ∧ 1 ≤ x ∧ x ≤ 1073741825 ∧ s8 = .int .i64 x ∧ s7 = .slice B n c ∧ n ≤ k ∧ MOwn wr w.heap.size B n c (multL h bound exact k) vs ∧ Ext w wr) (fun _ s8 _ => (r + 1 - (intOf s8).toNat))
  case atStart => exact ⟨0, 1, 0, none, 0, [], by omega, Lib.hid rfl, by omega, by omega, rfl, rfl, by omega, MOwn.nil _ _, inferInstance⟩
  case round =>
    obtain ⟨k, x, n, B, c, vs, hk, HX, hx1, hx2, rfl, rfl, hnk, hM, hxr⟩ := hrel
    have hxk := HX.out
    obtain ⟨p, hp⟩ : ∃ p, p = h * x := ⟨_, rfl⟩
    obtain ⟨s, hs⟩ : ∃ s, s = p * x := ⟨_, rfl⟩
    have hp0 : 0 ≤ p := by rw [hp]; exact Int.mul_nonneg (by omega) (by omega)
    have hs0 : 0 ≤ s := by rw [hs]; exact Int.mul_nonneg hp0 (by omega)
    have hp1 : p ≤ 9223372036854775807 := by
      have : h * x ≤ h * ((r : Int) + 1) := Int.mul_le_mul_of_nonneg_left (by omega) (by omega)
      omega
    have hs1 : s ≤ 9223372036854775807 := by
      have a1 : h * x ≤ h * ((r : Int) + 1) := Int.mul_le_mul_of_nonneg_left (by omega) (by omega)
      have a2 : p * x ≤ h * ((r : Int) + 1) * ((r : Int) + 1) := by
        rw [hp]
        exact Int.mul_le_mul a1 (by omega) (by omega) (by omega)
      omega
    have hps := hp.symm
    have hss := hs.symm
    have HS : Hid (h * ((k : Int) + 1) * ((k : Int) + 1) = s) := Lib.hid (by rw [hs, hp, hxk])
    by_cases hlt : k < r
    · have hsb : s ≤ bound := by
        have := hin x hx1 (by omega)
        rw [← hp, ← hs] at this; exact this
      by_cases hcol : (!exact || decide (s = bound)) = true
      · have HC := Lib.hid (multL_succ_in h bound exact k (by rw [HS.out]; exact hcol))
        have hdec : (exact = false) ∨ (exact = true ∧ (s == bound) = true) := by
          cases exact
          · exact .inl rfl
          · simp at hcol; exact .inr ⟨rfl, by simp [hcol]⟩
        have hex : Ints (wr.alloc (.cells #[.int .i64 x] 2)) (some ⟨wr.heap.size, 0, none⟩) 2 .i64 [x] := Arr.new wr 2 #[.int .i64 x]
        have HEX := Lib.hid hex
        have hsrc : Arr ((wr.alloc (.cells #[.int .i64 x] 2)).alloc (.cells #[.slice (some ⟨wr.heap.size, 0, none⟩) 1 1] 22)) (some ⟨wr.heap.size + 1, 0, none⟩) 22 [.slice (some ⟨wr.heap.size, 0, none⟩) 1 1] := by
          have := Arr.new (wr.alloc (.cells #[.int .i64 x] 2)) 22 #[.slice (some ⟨wr.heap.size, 0, none⟩) 1 1]
          rwa [World.size_alloc] at this
        clear hp hs hxk hcol hex
        rcases hdec with rfl | ⟨rfl, hse⟩
        all_goals
          go_wp2_with (at_builtin; refine wpList_app _ rfl _ _ 23 rfl w.heap.size 22 (.slice none 0 0) 1 24 Tryz.underlying23 infoSlI64 rfl (by omega) (by omega) B n c vs rfl (hM.own.ext inferInstance) _ 1 1 [.slice (some ⟨wr.heap.size, 0, none⟩) 1 1] rfl hsrc (by simp) (by simp [Value.oneCell']) (by omega) (by have := hxr.size; simp; omega) ?_; intro A4 d4 w4 hown4 hg4)
          refine ⟨⟨k + 1, x + 1, n + 1, A4, d4, vs ++ [.slice (some ⟨wr.heap.size, 0, none⟩) 1 1], by omega, Lib.hid (by have := HX.out; omega), by omega, by have := HX.out; omega, rfl, rfl, by omega, ?_, ?_⟩, by have := HX.out; simp [intOf]; omega⟩
          · rw [HC.out, ← HX.out]
            exact hM.snoc (r := [x]) (d := 1) inferInstance hg4 hown4 (HEX.out.ext inferInstance) (by simp) (by omega)
          · exact hg4.ext inferInstance (Nat.le_refl _)
      · have hexe : exact = true ∧ (s == bound) = false := by
          cases exact
          · simp at hcol
          · simp at hcol; exact ⟨rfl, by simp [hcol]⟩
        have HC := Lib.hid (multL_succ_out h bound exact k (by rw [HS.out]; simpa using hcol))
        clear hp hs hxk hcol
        obtain ⟨rfl, hse⟩ := hexe
        go_wp2
        refine ⟨⟨k + 1, x + 1, n, B, c, vs, by omega, Lib.hid (by have := HX.out; omega), by omega, by have := HX.out; omega, rfl, rfl, by omega, by rw [HC.out]; exact hM, hxr⟩, by have := HX.out; simp [intOf]; omega⟩
    · have hkr : k = r := by omega
      have hsb : bound < s := by rw [← HS.out, hkr]; exact hout
      have HKR := Lib.hid hkr
      clear hp hs hxk hkr hlt
      go_wp2
      go_ret
      have hcap := hM.own.cap
      rw [← HKR.out]
      have hml := hM.len
      exact ⟨B, c, by rw [hml]; rfl, hM.mat, by omega, by omega, Step.of _ _⟩
end Go.Proofs.YtaaldapmkhamlaaGreat

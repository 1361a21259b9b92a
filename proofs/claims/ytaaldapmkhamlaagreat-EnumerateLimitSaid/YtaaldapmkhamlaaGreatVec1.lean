/-
  Contracts of inRange and fits of the package vector.
-/
import Derived.Test.YtaaldapmkhamlaaGreatApp2
namespace Go.Proofs.YtaaldapmkhamlaaGreat
open Go.RowKit
/-- All coordinates lie within the limit. -/
def inRangeB (l : List Int) : Bool := l.all fun x => decide (-1099511627776 ≤ x) && decide (x ≤ 1099511627776)
theorem inRangeB_iff {l : List Int} : inRangeB l = true ↔ ∀ x ∈ l, -1099511627776 ≤ x ∧ x ≤ 1099511627776 := by simp [inRangeB]
theorem inRangeB_false {l : List Int} {k : Nat} {x : Int} (hx : l[k]? = some x) (h : ¬ (-1099511627776 ≤ x ∧ x ≤ 1099511627776)) : inRangeB l = false := by
  rcases hb : inRangeB l with _ | _
  · rfl
  · exact absurd (inRangeB_iff.1 hb x (List.mem_of_getElem? hx)) h

theorem inRange_any {w0 w : World} {X : Option Addr} {c : Nat} {l : List Int} (h : Ints w0 X 2 .i64 l) (hl : l.length ≤ 1099511627776) [hx : Ext w0 w] :
    Calls Tryz.prog 90 #[.slice X l.length c] w (RetSame w (.bool (inRangeB l))) := by
  have h0 := h.ext hx
  go_enter Tryz.func90, Tryz.ntmps90
  go_wp2
  go_loop [4, 7] (fun _ i => ∃ k : Nat, k ≤ l.length ∧ i = .int .i64 k ∧ Hid (∀ j x, j < k → l[j]? = some x → -1099511627776 ≤ x ∧ x ≤ 1099511627776)) (fun _ i => l.length - (intOf i).toNat)
  case atStart => exact ⟨0, by omega, rfl, Lib.hid (fun i x hi => absurd hi (by omega))⟩
  case round =>
    obtain ⟨k, hk, rfl, hR⟩ := hrel
    by_cases hlt : k < l.length
    · obtain ⟨b, o, x, rfl, hkx, e1, f1⟩ := h0.at_ hlt
      have HK := Lib.hid hkx
      clear hkx
      by_cases hlo : x < -1099511627776
      · have HF := Lib.hid (inRangeB_false HK.out (by omega))
        have hlob : decide (x < -1099511627776) = true := by simpa using hlo
        clear hlo
        go_wp2
        go_ret
        exact ⟨by rw [HF.out]; rfl, rfl⟩
      · have hlob : decide (x < -1099511627776) = false := by simpa using hlo
        by_cases hhi : 1099511627776 < x
        · have HF := Lib.hid (inRangeB_false HK.out (by omega))
          have hhib : decide (1099511627776 < x) = true := by simpa using hhi
          clear hlo hhi
          go_wp2
          go_ret
          exact ⟨by rw [HF.out]; rfl, rfl⟩
        · have hhib : decide (1099511627776 < x) = false := by simpa using hhi
          have hx1 : -1099511627776 ≤ x := by omega
          have hx2 : x ≤ 1099511627776 := by omega
          clear hlo hhi
          go_wp2
          refine ⟨⟨k + 1, by omega, by go_num, Lib.hid fun j y hj hy => ?_⟩, by simp [intOf] <;> omega⟩
          rcases Nat.lt_or_ge j k with h | h
          · exact hR.out j y h hy
          · obtain rfl : j = k := by omega
            rw [HK.out] at hy
            injection hy with hy
            subst hy
            exact ⟨hx1, hx2⟩
    · obtain rfl : k = l.length := by omega
      have HF : Hid (inRangeB l = true) := Lib.hid (inRangeB_iff.2 fun x hx => by
        obtain ⟨j, hj, e⟩ := List.getElem_of_mem hx
        exact hR.out j x hj (by simp [e, hj]))
      clear hlt
      go_wp2
      go_ret
      exact ⟨by rw [HF.out]; rfl, rfl⟩
def fitsB (n : Nat) (l : List Int) : Bool := decide (l.length = n) && inRangeB l
theorem fitsB_ne {n : Nat} {l : List Int} (h : l.length ≠ n) : fitsB n l = false := by simp [fitsB, h]
theorem fitsB_eq {n : Nat} {l : List Int} (h : l.length = n) : fitsB n l = inRangeB l := by simp [fitsB, h]
theorem fits_any {w0 w : World} {X : Option Addr} {c n : Nat} {l : List Int} (h : Ints w0 X 2 .i64 l) (hl : l.length ≤ 1099511627776) [hx : Ext w0 w] :
    Calls Tryz.prog 49 #[.int .i64 n, .slice X l.length c] w (RetSame w (.bool (fitsB n l))) := by
  by_cases hn : l.length = n
  · have HF := Lib.hid (fitsB_eq hn)
    subst hn
    go_enter Tryz.func49, Tryz.ntmps49
    go_wp2_with (go_at_call 90; refine (inRange_any h hl).mono ?_; rintro e w' ⟨rfl, rfl⟩)
    go_ret
    exact ⟨by rw [HF.out]; rfl, rfl⟩
  · have HF := Lib.hid (fitsB_ne hn)
    have hb : ((l.length : Int) == (n : Int)) = false := by simp; omega
    clear hn
    go_enter Tryz.func49, Tryz.ntmps49
    go_wp2_with (go_at_call 90; refine (inRange_any h hl).mono ?_; rintro e w' ⟨rfl, rfl⟩)
    go_ret
    exact ⟨by rw [HF.out]; rfl, rfl⟩
end Go.Proofs.YtaaldapmkhamlaaGreat

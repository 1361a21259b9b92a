/-
  Contracts of the reference's comparisons of vectors and lists (quadformref09: Compare, Same).
-/
import Derived.Test.YtaaldapmkhamlaaGreatVec7
namespace Go.Proofs.YtaaldapmkhamlaaGreat
open Go.RowKit
/-- A value is returned; the world has drawn orders. -/
def RetQ (w : World) (v : Value) (e : Ending) (w' : World) : Prop := e = .returned v ∧ ∃ n, w' = w.drewN n
set_option maxHeartbeats 1000000 in
theorem ref09_Compare_any {w0 w : World} {X Y : Option Addr} {c d : Nat} {x y : List Int} (hX : Ints w0 X 2 .i64 x) (hY : Ints w0 Y 2 .i64 y) (hx1 : x.length ≤ 1099511627776) (hy1 : y.length ≤ 1099511627776) [hx : Ext w0 w] :
    Calls Tryz.prog 23 #[.slice X x.length c, .slice Y y.length d] w (RetQ w (.int .i64 (lexI x y))) := by
  go_enter Tryz.func23, Tryz.ntmps23
  go_wp2
  go_loopw [5] (fun i wr => ∃ k : Nat, k ≤ x.length ∧ k ≤ y.length ∧ i = .int .i64 k ∧ Hid (lexI x y = lexI (x.drop k) (y.drop k)) ∧ Hid (∃ n, wr = w.drewN n)) (fun i _ => x.length - (intOf i).toNat)
  case atStart => exact ⟨0, by omega, by omega, rfl, Lib.hid rfl, Lib.hid ⟨0, rfl⟩⟩
  case round =>
    obtain ⟨k, hk1, hk2, rfl, HE, HN⟩ := hrel
    have hxn : Ext w0 wr := by obtain ⟨n, hn⟩ := HN.out; rw [hn]; infer_instance
    by_cases hlt : k < x.length
    · obtain ⟨b1, o1, a, rfl, ha, g1, g2⟩ := (hX.ext hxn).at_ hlt
      by_cases hlt2 : k < y.length
      · obtain ⟨b2, o2, b, rfl, hb, g3, g4⟩ := (hY.ext hxn).at_ hlt2
        have ea : x.drop k = a :: x.drop (k + 1) := by rw [List.drop_eq_getElem_cons hlt, (List.getElem?_eq_some_iff.1 ha).2]
        have eb : y.drop k = b :: y.drop (k + 1) := by rw [List.drop_eq_getElem_cons hlt2, (List.getElem?_eq_some_iff.1 hb).2]
        have HE2 : Hid (lexI x y = if cmpI a b = 0 then lexI (x.drop (k + 1)) (y.drop (k + 1)) else cmpI a b) := Lib.hid (by rw [HE.out, ea, eb, lexI])
        clear ha hb ea eb
        by_cases hab : a < b
        · have h1 : (a != b) = true := by simp; omega
          have h2 : decide (a < b) = true := by simpa using hab
          have HV : Hid (lexI x y = -1) := Lib.hid (by rw [HE2.out, cmpI_lt hab]; rfl)
          clear hab
          go_wp2
          go_quiet (fail)
          go_wp2
          go_quiet (fail)
          go_wp2
          go_ret
          exact ⟨by rw [HV.out]; rfl, by obtain ⟨n, hn⟩ := HN.out; exact ⟨_, by rw [hn, World.drewN_drewN, World.drewN_drewN]⟩⟩
        · by_cases hba : b < a
          · have h1 : (a != b) = true := by simp; omega
            have h2 : decide (a < b) = false := by simpa using hab
            have HV : Hid (lexI x y = 1) := Lib.hid (by rw [HE2.out, cmpI_gt hba]; rfl)
            clear hab hba
            go_wp2
            go_quiet (fail)
            go_wp2
            go_quiet (fail)
            go_wp2
            go_ret
            exact ⟨by rw [HV.out]; rfl, by obtain ⟨n, hn⟩ := HN.out; exact ⟨_, by rw [hn, World.drewN_drewN, World.drewN_drewN]⟩⟩
          · have hab2 : a = b := by omega
            have h1 : (a != b) = false := by simp [hab2]
            have HV : Hid (lexI x y = lexI (x.drop (k + 1)) (y.drop (k + 1))) := Lib.hid (by rw [HE2.out, cmpI_eq hab2]; rfl)
            clear hab hba hab2
            go_wp2
            go_quiet (fail)
            go_wp2
            exact ⟨⟨k + 1, by omega, by omega, by go_num, HV, Lib.hid (by obtain ⟨n, hn⟩ := HN.out; exact ⟨_, by rw [hn, World.drewN_drewN]⟩)⟩, by simp [intOf]; omega⟩
      · have HV : Hid (lexI x y = 1) := Lib.hid (by
          rw [HE.out, List.drop_eq_getElem_cons hlt, show y.drop k = [] from List.drop_eq_nil_iff.2 (by omega)]; rfl)
        clear ha
        go_wp2
        go_ret
        exact ⟨by rw [HV.out]; rfl, HN.out⟩
    · by_cases hlt2 : k < y.length
      · have HV : Hid (lexI x y = -1) := Lib.hid (by
          rw [HE.out, show x.drop k = [] from List.drop_eq_nil_iff.2 (by omega), List.drop_eq_getElem_cons hlt2]; rfl)
        go_wp2
        go_ret
        exact ⟨by rw [HV.out]; rfl, HN.out⟩
      · have HV : Hid (lexI x y = 0) := Lib.hid (by
          rw [HE.out, show x.drop k = [] from List.drop_eq_nil_iff.2 (by omega), show y.drop k = [] from List.drop_eq_nil_iff.2 (by omega)]; rfl)
        go_wp2
        go_ret
        exact ⟨by rw [HV.out]; rfl, HN.out⟩

set_option maxHeartbeats 1000000 in
theorem ref09_Same_any {w0 w : World} {A B : Option Addr} {c d : Nat} {a b : List (List Int)} (hA : Mat64 w0 A a) (hB : Mat64 w0 B b) (ha1 : a.length ≤ 1099511627776) (hb1 : b.length ≤ 1099511627776) (ha2 : ∀ r ∈ a, r.length ≤ 1099511627776) (hb2 : ∀ r ∈ b, r.length ≤ 1099511627776) [hx : Ext w0 w] :
    Calls Tryz.prog 30 #[.slice A a.length c, .slice B b.length d] w (RetQ w (.bool (decide (a = b)))) := by
  by_cases hl : a.length = b.length
  · rw [← hl]
    have hlb : ((a.length : Int) != (a.length : Int)) = false := by simp
    have HL := Lib.hid hl
    have HA2 := Lib.hid ha2
    have HB2 := Lib.hid hb2
    clear hl ha2 hb2 hb1
    obtain ⟨q, hq⟩ : ∃ q, q = a.length := ⟨_, rfl⟩
    rw [← hq] at hlb ha1 ⊢
    have HQ := Lib.hid hq
    clear hq
    go_enter Tryz.func30, Tryz.ntmps30
    go_wp2
    go_loopw [5, 13] (fun _ i wr => ∃ k : Nat, k ≤ q ∧ i = .int .i64 k ∧ Hid (a.take k = b.take k) ∧ Hid (∃ n, wr = w.drewN n)) (fun _ i _ => q - (intOf i).toNat)
    case atStart => exact ⟨0, by omega, rfl, Lib.hid rfl, Lib.hid ⟨0, rfl⟩⟩
    case round =>
      obtain ⟨k, hk, rfl, HE, HN⟩ := hrel
      have hxn : Ext w0 wr := by obtain ⟨n, hn⟩ := HN.out; rw [hn]; infer_instance
      by_cases hlt : k < q
      · have hka : k < a.length := by have := HQ.out; omega
        have hkb : k < b.length := by have := HQ.out; have := HL.out; omega
        obtain ⟨b1, o1, X, c1, rfl, e1, f1, f2, f3, f4⟩ := (hA.ext hxn).at_ (i := k) (r := a[k]) (by simp [hka])
        obtain ⟨b2, o2, Y, c2, rfl, e2, g1, g2, g3, g4⟩ := (hB.ext hxn).at_ (i := k) (r := b[k]) (by simp [hkb])
        obtain ⟨x, hxx⟩ : ∃ x, x = a[k] := ⟨_, rfl⟩
        obtain ⟨y, hyy⟩ : ∃ y, y = b[k] := ⟨_, rfl⟩
        have hxl := HA2.out a[k] (List.getElem_mem hka)
        have hyl := HB2.out b[k] (List.getElem_mem hkb)
        rw [← hxx] at e1 f1 f2 hxl
        rw [← hyy] at e2 g1 g2 hyl
        have HX : Hid (a[k]? = some x) := Lib.hid (by rw [hxx]; simp [hka])
        have HY : Hid (b[k]? = some y) := Lib.hid (by rw [hyy]; simp [hkb])
        have hc := fun n => ref09_Compare_any (w0 := wr) (w := wr.drewN n) (c := c1) (d := c2) f1 g1 hxl hyl
        have HC := Lib.hid hc
        clear hxx hyy hc f1 g1
        by_cases hxy : x = y
        · subst hxy
          have HT : Hid (a.take (k + 1) = b.take (k + 1)) := Lib.hid (by rw [List.take_add_one, List.take_add_one, HE.out, HX.out, HY.out])
          rw [lexI_self] at HC
          go_wp2
          go_quiet ((go_at_call 23; exact Calls.quiet_of (HC.out _)))
          go_wp2
          exact ⟨⟨k + 1, by omega, by go_num, HT, Lib.hid (by obtain ⟨n, hn⟩ := HN.out; exact ⟨_, by rw [hn, World.drewN_drewN]⟩)⟩, by simp [intOf]; omega⟩
        · obtain ⟨v, hv⟩ : ∃ v, v = lexI x y := ⟨_, rfl⟩
          rw [← hv] at HC
          have hv0 : (v != 0) = true := by simp; intro h; exact hxy (lexI_eq _ _ (hv ▸ h))
          have HV : Hid (decide (a = b) = false) := Lib.hid (by simp; intro h; apply hxy; have h1 := HX.out; rw [h, HY.out] at h1; injection h1 with h1; exact h1.symm)
          clear hv hxy
          go_wp2
          go_quiet ((go_at_call 23; exact Calls.quiet_of (HC.out _)))
          go_wp2
          go_ret
          exact ⟨by rw [HV.out]; rfl, by obtain ⟨n, hn⟩ := HN.out; exact ⟨_, by rw [hn, World.drewN_drewN]⟩⟩
      · have HV : Hid (decide (a = b) = true) := Lib.hid (by
          have h1 : a.take k = a := List.take_of_length_le (by have := HQ.out; omega)
          have h2 : b.take k = b := List.take_of_length_le (by have := HQ.out; have := HL.out; omega)
          have := HE.out
          rw [h1, h2] at this
          simp [this])
        go_wp2
        go_ret
        exact ⟨by rw [HV.out]; rfl, HN.out⟩
  · have hlb : ((a.length : Int) != (b.length : Int)) = true := by simp; omega
    have HV : Hid (decide (a = b) = false) := Lib.hid (by simp; intro h; exact hl (by rw [h]))
    clear hl
    go_enter Tryz.func30, Tryz.ntmps30
    go_wp2
    go_ret
    exact ⟨by rw [HV.out]; rfl, 0, rfl⟩
end Go.Proofs.YtaaldapmkhamlaaGreat

/-
  The contracts of Vectors, Count and Shell of the package enumerate, where the arguments are good.
-/
import Derived.Test.YtaaldapmkhamlaaGreatColl
namespace Go.Proofs.YtaaldapmkhamlaaGreat
open Go.RowKit
/-- The number of steps of full length. -/
def lastOf (st : List Int) : Int := st.getD (st.length - 1) 0
theorem pairs_any {w0 w : World} {A : Option Addr} {c : Nat} {st : List Int} (h : Ints w0 A 3 .i64 st) (h1 : 1 ≤ st.length) (h2 : st.length ≤ 1099511627776) (l1 : 1 ≤ lastOf st) (l2 : lastOf st ≤ 1099511627776) [hx : Ext w0 w] :
    Calls Tryz.prog 27 #[.slice A st.length c] w (RetSame w (.int .i64 ((lastOf st - 1) / 2))) := by
  obtain ⟨b, o, x, rfl, hx', g1, g2⟩ := (h.ext hx).at_ (i := st.length - 1) (by omega)
  have he : lastOf st = x := by unfold lastOf; simp [hx']
  rw [he] at l1 l2 ⊢
  obtain ⟨n, hn⟩ : ∃ n, st.length = n + 1 := ⟨st.length - 1, by omega⟩
  rw [hn] at h2 g1 ⊢
  simp only [Nat.add_sub_cancel] at g1
  clear hn he hx' h h1
  go_enter Tryz.func27, Tryz.ntmps27
  go_wp2
  go_ret
  exact ⟨rfl, rfl⟩
theorem Count_ok {w0 w : World} {A : Option Addr} {c : Nat} {m : List (List Int)} {bound budget : Int} {st : List Int} (h : Mat64 w0 A m) (hlen : m.length ≤ 1099511627776) (hc : m.length ≤ c) (hc2 : c ≤ 9223372036854775807) (hf : isRedB m = true → FormOK m) (hs : stepsSpec m bound budget = (st, 0)) (h1 : 1 ≤ st.length) (h2 : st.length ≤ 1099511627776) (l1 : 1 ≤ lastOf st) (l2 : lastOf st ≤ 1099511627776) [hx : Ext w0 w] :
    Calls Tryz.prog 9 #[.slice A m.length c, .int .i64 bound, .int .i64 budget] w (RetVal w (.tuple #[.int .i64 ((lastOf st - 1) / 2), .int .i64 0])) := by
  have hst := fun W (hh : Ext w0 W) => Steps_any (w := W) (bound := bound) (budget := budget) h hlen hc hc2 hf
  rw [hs] at hst
  have HST := Lib.hid hst
  have hpa := fun W A' c' (hI : Ints W A' 3 .i64 st) => pairs_any (w := W) (c := c') hI h1 h2 l1 l2
  have HP := Lib.hid hpa
  obtain ⟨q, hq⟩ : ∃ q, (lastOf st - 1) / 2 = q := ⟨_, rfl⟩
  rw [hq] at HP ⊢
  clear hst hpa hs hq hf
  go_enter Tryz.func9, Tryz.ntmps9
  go_wp2_with (first
    | (go_at_call 26; refine (HST.out _ inferInstance).mono ?_; rintro e w1 ⟨A1, c1, rfl, hI, k1, k2, hs1⟩)
    | (go_at_call 27; refine (HP.out _ _ _ hI).mono ?_; rintro e w2 ⟨rfl, rfl⟩))
  go_ret2
  exact ⟨rfl, Step.of _ _⟩
/-- What makes the enumeration of a form run to its end. -/
structure EnumOK (m : List (List Int)) (bound : Int) (exact : Bool) : Prop where
  form : FormOK m
  s64 : St64 m
  red : RedM m
  b0 : 0 ≤ bound
  b1 : 1 < m.length → bound < 1073741824
  one : m.length = 1 → isq (bound / ent m 0 0).toNat ≤ 1048576
  len : (collL m bound exact).length ≤ 1073741824
  vec : ∀ x ∈ collL m bound exact, VecOK m x
  nd : ((collL m bound exact).map canonL).Nodup
def RetVecs (w : World) (m ls : List (List Int)) (total : Int) (e : Ending) (w' : World) : Prop := ∃ A c L, e = .returned (.tuple #[.slice A (List.length L) c, .int .i64 total, .int .i64 0]) ∧ Mat64 w' A L ∧ L.length ≤ c ∧ c ≤ 9223372036854775807 ∧ L.Perm (ls.map canonL) ∧ L.Pairwise (fun x y => cmpK (nrm m x) (nrm m y) x y < 0) ∧ Step w w'
def RetShell (w : World) (m ls : List (List Int)) (e : Ending) (w' : World) : Prop := ∃ A c L, e = .returned (.tuple #[.slice A (List.length L) c, .int .i64 0]) ∧ Mat64 w' A L ∧ L.length ≤ c ∧ c ≤ 9223372036854775807 ∧ L.Perm (ls.map canonL) ∧ L.Pairwise (fun x y => cmpK (nrm m x) (nrm m y) x y < 0) ∧ Step w w'
theorem Vectors_big {w0 w : World} {A : Option Addr} {c : Nat} {m : List (List Int)} {bound budget : Int} {st : List Int} (h : Mat64 w0 A m) (hlen : m.length ≤ 1099511627776) (hc : m.length ≤ c) (hc2 : c ≤ 9223372036854775807) (hf : isRedB m = true → FormOK m) (hs : stepsSpec m bound budget = (st, 0)) (h1 : 1 ≤ st.length) (h2 : st.length ≤ 1099511627776) (l1 : 1 ≤ lastOf st) (l2 : lastOf st ≤ 1099511627776) (hbig : 4096 < (lastOf st - 1) / 2) [hx : Ext w0 w] :
    Calls Tryz.prog 8 #[.slice A m.length c, .int .i64 bound, .int .i64 budget] w (RetVal w (.tuple #[.slice none 0 0, .int .i64 0, .int .i64 7])) := by
  have hst := fun W (hh : Ext w0 W) => Steps_any (w := W) (bound := bound) (budget := budget) h hlen hc hc2 hf
  rw [hs] at hst
  have HST := Lib.hid hst
  have hpa := fun W A' c' (hI : Ints W A' 3 .i64 st) => pairs_any (w := W) (c := c') hI h1 h2 l1 l2
  have HP := Lib.hid hpa
  obtain ⟨q, hq⟩ : ∃ q, (lastOf st - 1) / 2 = q := ⟨_, rfl⟩
  rw [hq] at HP hbig
  have hb' : decide (4096 < q) = true := by simpa using hbig
  clear hst hpa hs hq hf
  go_enter Tryz.func8, Tryz.ntmps8
  go_wp2_with (first
    | (go_at_call 26; refine (HST.out _ inferInstance).mono ?_; rintro e w1 ⟨A1, c1, rfl, hI, k1, k2, hs1⟩)
    | (go_at_call 27; refine (HP.out _ _ _ hI).mono ?_; rintro e w2 ⟨rfl, rfl⟩))
  go_ret3
  exact ⟨rfl, Step.of _ _⟩
theorem sum_take_succ (l : List Int) (k : Nat) (x : Int) (h : l[k]? = some x) : (l.take (k + 1)).sum = (l.take k).sum + x := by
  rw [List.take_add_one, h]; simp
theorem sum_take_bound (l : List Int) (hb : ∀ x ∈ l, 0 ≤ x ∧ x ≤ 1099511627776) (k : Nat) : 0 ≤ (l.take k).sum ∧ (l.take k).sum ≤ k * 1099511627776 := by
  induction k with
  | zero => simp
  | succ k ih =>
    cases h : l[k]? with
    | none => rw [List.take_add_one, h]; simp; omega
    | some x =>
      rw [sum_take_succ l k x h]
      have := hb x (List.mem_of_getElem? h)
      omega
set_option maxHeartbeats 1000000 in
theorem Vectors_ok {w0 w : World} {A : Option Addr} {c : Nat} {m : List (List Int)} {bound budget : Int} {st : List Int} (h : Mat64 w0 A m) (hc : m.length ≤ c) (hc2 : c ≤ 9223372036854775807) (hok : EnumOK m bound false) (hs : stepsSpec m bound budget = (st, 0)) (h1 : 1 ≤ st.length) (h2 : st.length ≤ 8) (l1 : 1 ≤ lastOf st) (hb : ∀ x ∈ st, 0 ≤ x ∧ x ≤ 1099511627776) (hsm : (lastOf st - 1) / 2 ≤ 4096) [hx : Ext w0 w] :
    Calls Tryz.prog 8 #[.slice A m.length c, .int .i64 bound, .int .i64 budget] w (RetVecs w m (collL m bound false) st.sum) := by
  have hn8 := hok.red.n8
  have l2 : lastOf st ≤ 1099511627776 := by omega
  have hst := fun W (hh : Ext w0 W) => Steps_any (w := W) (bound := bound) (budget := budget) h (by omega) hc hc2 (fun _ => hok.form)
  rw [hs] at hst
  have HST := Lib.hid hst
  have hpa := fun W A' c' (hI : Ints W A' 3 .i64 st) => pairs_any (w := W) (c := c') hI h1 (by omega) l1 l2
  have HP := Lib.hid hpa
  obtain ⟨q, hq⟩ : ∃ q, (lastOf st - 1) / 2 = q := ⟨_, rfl⟩
  rw [hq] at HP hsm
  have hb' : decide (4096 < q) = false := by simp; omega
  have hco := fun W (hh : Ext w0 W) => collect_any (w := W) (c := c) h hok.form hok.s64 hok.b0 hok.b1 hok.one hok.len
  have HCO := Lib.hid hco
  have hso := fun W X d (hh : Ext w0 W) (hX : Mat64 W X (collL m bound false)) => SortUnique_ok (w0 := W) (w := W) (c := c) (d := d) (h.ext hh) hc hc2 hX hok.len hok.red hok.vec hok.nd
  have HSO := Lib.hid hso
  obtain ⟨ls, hls⟩ : ∃ ls, collL m bound false = ls := ⟨_, rfl⟩
  rw [hls] at HCO HSO ⊢
  have HB := Lib.hid hb
  clear hst hpa hs hq hco hso hls hok hb
  go_enter Tryz.func8, Tryz.ntmps8
  go_wp2_with (first
    | (go_at_call 26; refine (HST.out _ inferInstance).mono ?_; rintro e w1 ⟨A1, c1, rfl, hI, k1, k2, hs1⟩)
    | (go_at_call 27; refine (HP.out _ _ _ hI).mono ?_; rintro e w2 ⟨rfl, rfl⟩))
  go_loop [11, 13, 31] (fun s _ i => ∃ k : Nat, k ≤ st.length ∧ i = .int .i64 k ∧ s = .int .i64 (st.take k).sum) (fun _ _ i => st.length - (intOf i).toNat)
  case atStart => exact ⟨0, by omega, rfl, by simp⟩
  case round =>
    obtain ⟨k, hk, rfl, rfl⟩ := hrel
    have hbd := sum_take_bound st HB.out k
    by_cases hlt : k < st.length
    · obtain ⟨b, o, x, rfl, hx', g1, g2⟩ := hI.at_ hlt
      have hxb := HB.out x (List.mem_of_getElem? hx')
      have HS := Lib.hid (sum_take_succ st k x hx')
      obtain ⟨s, hs⟩ : ∃ s, s = (st.take k).sum := ⟨_, rfl⟩
      rw [← hs] at hbd HS ⊢
      have b1 : s ≤ 8 * 1099511627776 := by omega
      obtain ⟨b0, -⟩ := hbd
      obtain ⟨x0, x1⟩ := hxb
      clear hs hx'
      go_wp2
      exact ⟨⟨k + 1, by omega, by go_num, by rw [HS.out]⟩, by simp [intOf]; omega⟩
    · have htk : st.take k = st := List.take_of_length_le (by omega)
      rw [htk] at hbd ⊢
      obtain ⟨s, hs⟩ : ∃ s, s = st.sum := ⟨_, rfl⟩
      have hsb : 0 ≤ s ∧ s ≤ 8 * 1099511627776 := by rw [hs]; omega
      rw [← hs]
      have HS := Lib.hid hs
      clear hs htk hbd
      go_wp2_with (first
        | (go_at_call 29; refine (HCO.out _ inferInstance).mono ?_; rintro e w3 ⟨A3, c3, rfl, hM3, k3, k4, hs3⟩)
        | (go_at_call 28; refine (HSO.out _ _ _ inferInstance hM3).mono ?_; rintro e w4 ⟨A4, c4, L, rfl, hM4, k5, k6, hp, hw, hs4⟩))
      go_ret3
      exact ⟨A4, c4, L, by rw [← HS.out]; rfl, hM4, k5, k6, hp, hw, Step.of _ _⟩
set_option maxHeartbeats 1000000 in
theorem Shell_ok {w0 w : World} {A : Option Addr} {c : Nat} {m : List (List Int)} {bound budget : Int} {st : List Int} (h : Mat64 w0 A m) (hc : m.length ≤ c) (hc2 : c ≤ 9223372036854775807) (hok : EnumOK m bound true) (hs : stepsSpec m bound budget = (st, 0)) (hsm : (collL m bound true).length ≤ 4096) [hx : Ext w0 w] :
    Calls Tryz.prog 10 #[.slice A m.length c, .int .i64 bound, .int .i64 budget] w (RetShell w m (collL m bound true)) := by
  have hn8 := hok.red.n8
  have hst := fun W (hh : Ext w0 W) => Steps_any (w := W) (bound := bound) (budget := budget) h (by omega) hc hc2 (fun _ => hok.form)
  rw [hs] at hst
  have HST := Lib.hid hst
  have hco := fun W (hh : Ext w0 W) => collect_any (w := W) (c := c) h hok.form hok.s64 hok.b0 hok.b1 hok.one hok.len
  have HCO := Lib.hid hco
  have hso := fun W X d (hh : Ext w0 W) (hX : Mat64 W X (collL m bound true)) => SortUnique_ok (w0 := W) (w := W) (c := c) (d := d) (h.ext hh) hc hc2 hX hok.len hok.red hok.vec hok.nd
  have HSO := Lib.hid hso
  obtain ⟨ls, hls⟩ : ∃ ls, collL m bound true = ls := ⟨_, rfl⟩
  rw [hls] at HCO HSO hsm ⊢
  clear hst hs hco hso hls hok
  unfold RetMatL at HCO
  obtain ⟨ln, hln⟩ : ∃ ln, ln = ls.length := ⟨_, rfl⟩
  rw [← hln] at HCO HSO hsm
  have hb' : decide (4096 < ln) = false := by simp; omega
  clear hln
  go_enter Tryz.func10, Tryz.ntmps10
  go_wp2_with (first
    | (go_at_call 26; refine (HST.out _ inferInstance).mono ?_; rintro e w1 ⟨A1, c1, rfl, hI, k1, k2, hs1⟩)
    | (go_at_call 29; refine (HCO.out _ inferInstance).mono ?_; rintro e w3 ⟨A3, c3, rfl, hM3, k3, k4, hs3⟩)
    | (go_at_call 28; refine (HSO.out _ _ _ inferInstance hM3).mono ?_; rintro e w4 ⟨A4, c4, L, rfl, hM4, k5, k6, hp, hw, hs4⟩))
  go_ret2
  exact ⟨A4, c4, L, rfl, hM4, k5, k6, hp, hw, Step.of _ _⟩
end Go.Proofs.YtaaldapmkhamlaaGreat

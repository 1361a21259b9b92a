/-
  Contracts of the program's package integer: the small functions on natural numbers.
-/
import Derived.Test.YtaaldapmkhamlaaGreatBase
namespace Go.Proofs.YtaaldapmkhamlaaGreat
open Go.RowKit

theorem Tryz.infoU32 : (Tryz.prog.info? 237).map (fun i => (i.zero, i.size, i.bytes)) = some (some (.int .u32 0), 1, 4) := by kernel_rfl

theorem tight_take_succ {l : List Int} {k : Nat} {x : Int} (hx : l[k]? = some x) (h0 : x ≠ 0) : Tight (l.take (k + 1)) := by
  have hi : k < l.length := (List.getElem?_eq_some_iff.1 hx).1
  have hx' : l[k] = x := (List.getElem?_eq_some_iff.1 hx).2
  rw [List.take_succ_eq_append_getElem hi, hx']
  simp [Tight, h0]
theorem val_take_zero {l : List Int} {k : Nat} (hx : l[k]? = some 0) : val (l.take (k + 1)) = val (l.take k) := by
  rw [val_take_succ hx]; simp

/-- trim: a part of the slice. -/
def RetTrim (w : World) (A : Option Addr) (c : Nat) (l : List Int) (e : Ending) (w' : World) : Prop := ∃ m : Nat, m ≤ l.length ∧ Tight (l.take m) ∧ val (l.take m) = val l ∧ e = .returned (.slice A m c) ∧ w = w'

set_option maxHeartbeats 400000 in
theorem trim_any {A : Option Addr} {c : Nat} {l : List Int} {w : World} (h : Ints w A 237 .u32 l) (hc : l.length ≤ c) (hc2 : c ≤ 9223372036854775807) :
    Calls Tryz.prog 170 #[.slice A l.length c] w (RetTrim w A c l) := by
  go_enter Tryz.func170, Tryz.ntmps170
  go_wp2
  go_loop [0] (fun v => ∃ m : Nat, m ≤ l.length ∧ Hid (val (l.take m) = val l) ∧ v = .slice A m c) (fun v => match v with | .slice _ m _ => m | _ => 0)
  case atStart => exact ⟨l.length, Nat.le_refl _, by rw [List.take_length]; exact Lib.hid rfl, rfl⟩
  case round =>
    obtain ⟨m, hm, hv, rfl⟩ := hrel
    by_cases h0 : 0 < m
    · obtain ⟨k, rfl⟩ : ∃ k, m = k + 1 := ⟨m - 1, by omega⟩
      obtain ⟨b, o, x, rfl, hx', hcell, hb⟩ := h.at_ (i := k) (by omega)
      have hx := Lib.hid hx'
      clear hx'
      by_cases hx0 : x = 0
      · subst hx0
        go_wp2
        exact ⟨⟨k, by omega, by rw [Hid, ← val_take_zero hx.out]; exact hv, rfl⟩, by simp⟩
      · have hx1 : (x == 0) = false := by simp [hx0]
        have ht := Lib.hid (tight_take_succ hx.out hx0)
        clear hx0
        go_wp2
        go_ret
        exact ⟨k + 1, hm, ht.out, hv.out, rfl, rfl⟩
    · obtain rfl : m = 0 := by omega
      go_wp2
      go_ret
      exact ⟨0, by omega, by simp [Tight], hv.out, rfl, rfl⟩

set_option maxHeartbeats 400000 in
theorem build_any {w0 w : World} {A : Option Addr} {c : Nat} {l : List Int} (neg : Bool) (h : Ints w0 A 237 .u32 l) (hl : Limbs l) (ht : Tight l) (hc : l.length ≤ c) (hc2 : c ≤ 9223372036854775807) [hx : Ext w0 w] :
    Calls Tryz.prog 168 #[.bool neg, .slice A l.length c] w (RetInt w (sgn neg (val l))) := by
  have h1 := h.ext hx
  by_cases h0 : l = []
  · subst h0
    go_enter Tryz.func168, Tryz.ntmps168
    go_wp2
    refine bodyPost_ret (v := .agg #[.bool false, .slice none 0 0]) (by simp [results, Tryz.results168, go_sem]) rfl ⟨_, _, _, _, rfl, ?_, Step.of _ _⟩
    cases neg <;> simpa [val, sgn] using IntV.zero _ none 0 (by omega)
  · have hlen : 0 < l.length := List.length_pos_iff.2 h0
    have hz : ((l.length : Int) == 0) = false := by simp [h0]
    have hv : 0 < val l := by
      have := val_nonneg hl
      have : val l ≠ 0 := fun hh => h0 ((tight_zero hl ht).1 hh)
      omega
    have hpost : ∀ w', Ext w w' → IntV w' neg A l.length c (sgn neg (val l)) := fun w' hxw => by
      refine ⟨l, rfl, hl, ht, ?_, ?_, h1.ext hxw, hc, hc2⟩
      · cases neg <;> simp [sgn] <;> omega
      · cases neg <;> simp [sgn] <;> omega
    have HP := Lib.hid hpost
    clear h0 h1 hv hpost
    go_enter Tryz.func168, Tryz.ntmps168
    go_wp2
    exact bodyPost_ret (v := .agg #[.bool neg, .slice A l.length c]) (by simp [results, Tryz.results168, go_sem]) rfl ⟨_, _, _, _, rfl, HP.out _ inferInstance, Step.of _ _⟩

theorem or_hi (a x : Int) (h1 : 0 ≤ a) (h2 : a < 4294967296) (h3 : 0 ≤ x) (h4 : x < 4294967296) : bits .or .u64 a (x * 4294967296) = a + x * 4294967296 := by
  rw [u64_or a _ h1 (by omega) (by omega) (by omega), nat_join32' _ _ (by omega) (by omega)]
  omega
theorem or_zero_left (x : Int) (h3 : 0 ≤ x) (h4 : x < 18446744073709551616) : bits .or .u64 0 x = x := by
  rw [u64_or 0 _ (by omega) (by omega) (by omega) (by omega)]
  simp; omega

theorem val_take1 {l : List Int} {x : Int} (h : l[0]? = some x) : val (l.take 1) = x := by
  have := val_take_succ h
  simpa [val] using this

set_option maxHeartbeats 400000 in
theorem word_any {A : Option Addr} {c : Nat} {l : List Int} {w : World} (h : Ints w A 237 .u32 l) (hl : Limbs l) (h2 : l.length ≤ 2) :
    Calls Tryz.prog 171 #[.slice A l.length c] w (RetSame w (.int .u64 (val l))) := by
  go_enter Tryz.func171, Tryz.ntmps171
  go_wp2
  go_loop [3, 8] (fun v i => ∃ k : Nat, k ≤ l.length ∧ i = .int .i64 k ∧ v = .int .u64 (val (l.take k))) (fun _ i => l.length - (intOf i).toNat)
  case atStart => exact ⟨0, by omega, rfl, rfl⟩
  case round =>
    obtain ⟨k, hk, rfl, rfl⟩ := hrel
    by_cases hlt : k < l.length
    · obtain rfl | rfl : k = 0 ∨ k = 1 := by omega
      · obtain ⟨b, o, x, rfl, hx', hcell, hb⟩ := h.at0 hlt
        obtain ⟨hx0, hx1⟩ := hl.get hx'
        have hs := Lib.hid (val_take1 hx')
        clear hx'
        simp only [List.take_zero, val]
        go_wp2
        refine ⟨⟨1, by omega, rfl, ?_⟩, by simp [intOf]; omega⟩
        rw [or_zero_left _ hx0 (by omega), hs.out]
      · obtain ⟨b, o, x, rfl, hx', hcell, hb⟩ := h.at_ hlt
        obtain ⟨hx0, hx1⟩ := hl.get hx'
        have hs := Lib.hid (val_take_succ hx')
        clear hx'
        have hy0 := val_nonneg (hl.take 1)
        have hy1 := val_lt (hl.take 1)
        have hy2 : (l.take 1).length = 1 := by simp; omega
        rw [hy2] at hy1
        clear hy2
        go_wp2
        refine ⟨⟨2, by omega, rfl, ?_⟩, by simp [intOf]; omega⟩
        rw [or_hi _ _ hy0 (by omega) hx0 hx1, hs.out]
        congr 1; omega
    · obtain rfl : k = l.length := by omega
      go_wp2
      go_ret
      exact ⟨by simp, rfl⟩

theorem val_two (n : Int) : val [n % 4294967296, n / 4294967296] = n := by
  simp only [val]; omega

set_option maxHeartbeats 400000 in
theorem fromWord_any (n : Int) (h0 : 0 ≤ n) (h1 : n < 18446744073709551616) (w : World) :
    Calls Tryz.prog 169 #[.int .u64 n] w (RetNat w n) := by
  have hl : Limbs [n % 4294967296, n / 4294967296] := Limbs.cons (by omega) (Limbs.cons (by omega) Limbs.nil)
  have hi := Arr.new w 237 #[.int .u32 (n % 4294967296), .int .u32 (n / 4294967296)]
  have hi' : Ints (w.alloc (.cells #[.int .u32 (n % 4294967296), .int .u32 (n / 4294967296)] 237)) (some ⟨w.heap.size, 0, none⟩) 237 .u32 [n % 4294967296, n / 4294967296] := hi
  have hc := trim_any (c := 2) hi' (by simp) (by omega)
  have HC := Lib.hid hc
  clear hc hi
  go_enter Tryz.func169, Tryz.ntmps169
  go_wp2_with (go_at_call 170; refine (HC.out).mono ?_; rintro e w' ⟨m, hm, ht, hv, rfl, rfl⟩)
  go_ret
  refine ⟨_, 2, [n % 4294967296, n / 4294967296].take m, ?_, hi'.take m, hl.take m, ht, by rw [hv, val_two], ?_, by omega, Step.of _ _⟩
  · have : m ≤ 2 := hm
    simp [Nat.min_eq_left this]
  · simp; omega

set_option maxHeartbeats 400000 in
theorem Small_neg (n : Int) (h0 : n < 0) (h1 : -9223372036854775808 ≤ n) (w : World) :
    Calls Tryz.prog 125 #[.int .i64 n] w (RetInt w n) := by
  go_enter Tryz.func125, Tryz.ntmps125
  go_wp2_with fail
  rw [show IntKind.u64.wrap (-IntKind.u64.wrap n) = -n by simp only [IntKind.wrap_u64]; omega]
  refine (fromWord_any (-n) (by omega) (by omega) _).mono ?_
  rintro e w1 ⟨B1, d1, l1, rfl, hi1, hl1, ht1, hv1, hd1, hd2, hs1⟩
  have HV := Lib.hid hv1
  clear hv1
  go_wp2_with fail
  refine (build_any true hi1 hl1 ht1 hd1 hd2).mono ?_
  rintro e w2 ⟨g, B, k, d, rfl, hz, hs2⟩
  obtain ⟨q0, q1, q2, q3, q4, q5⟩ := box2 w w2 (.bool false) (.slice none 0 0) 158
  have Q0 := Lib.hid q0
  clear q0
  go_wp2
  refine bodyPost_ret (v := .agg #[.bool g, .slice B k d]) (by simp [results, Tryz.results125, go_sem, q1, q2]) rfl ⟨_, _, _, _, rfl, ?_, Step.of _ _⟩
  have e1 : sgn true (val l1) = n := by rw [HV.out]; simp [sgn]
  rw [e1] at hz
  exact hz.boxed (by decide) Q0.out _ _

set_option maxHeartbeats 400000 in
theorem Small_pos (n : Int) (h0 : 0 ≤ n) (h1 : n ≤ 9223372036854775807) (w : World) :
    Calls Tryz.prog 125 #[.int .i64 n] w (RetInt w n) := by
  go_enter Tryz.func125, Tryz.ntmps125
  go_wp2_with fail
  try rw [show IntKind.u64.wrap n = n by simp only [IntKind.wrap_u64]; omega]
  refine (fromWord_any n (by omega) (by omega) _).mono ?_
  rintro e w1 ⟨B1, d1, l1, rfl, hi1, hl1, ht1, hv1, hd1, hd2, hs1⟩
  have HV := Lib.hid hv1
  clear hv1
  go_wp2_with fail
  refine (build_any false hi1 hl1 ht1 hd1 hd2).mono ?_
  rintro e w2 ⟨g, B, k, d, rfl, hz, hs2⟩
  obtain ⟨q0, q1, q2, q3, q4, q5⟩ := box2 w w2 (.bool false) (.slice none 0 0) 158
  have Q0 := Lib.hid q0
  clear q0
  go_wp2
  refine bodyPost_ret (v := .agg #[.bool g, .slice B k d]) (by simp [results, Tryz.results125, go_sem, q1, q2]) rfl ⟨_, _, _, _, rfl, ?_, Step.of _ _⟩
  have e1 : sgn false (val l1) = n := by rw [HV.out]; simp [sgn]
  rw [e1] at hz
  exact hz.boxed (by decide) Q0.out _ _

theorem Small_any (n : Int) (h0 : -9223372036854775808 ≤ n) (h1 : n ≤ 9223372036854775807) (w : World) :
    Calls Tryz.prog 125 #[.int .i64 n] w (RetInt w n) := by
  by_cases h : n < 0
  · exact Small_neg n h h0 w
  · exact Small_pos n (by omega) h1 w

/-! ## compareNat -/
/-- The sign of a difference. -/
def cmpI (a b : Int) : Int := if a < b then -1 else if a = b then 0 else 1
theorem cmpI_lt {a b : Int} (h : a < b) : cmpI a b = -1 := by simp [cmpI, h]
theorem cmpI_gt {a b : Int} (h : b < a) : cmpI a b = 1 := by simp [cmpI]; omega
theorem cmpI_eq {a b : Int} (h : a = b) : cmpI a b = 0 := by simp [cmpI, h]
theorem tight_len_lt {l m : List Int} (hl : Limbs l) (hm : Limbs m) (ht : Tight m) (h : l.length < m.length) : val l < val m := by
  have h1 := val_lt hl
  have h2 := tight_lower hm ht (by omega)
  have h3 := pow_mono_B (m := l.length) (n := m.length - 1) (by omega)
  omega
/-- From the limb k on the two lists agree. -/
theorem val_split {l : List Int} (k : Nat) : val l = val (l.take k) + (4294967296 : Int) ^ (l.take k).length * val (l.drop k) := by
  rw [← val_append, List.take_append_drop]
theorem val_lt_of_limb {l m : List Int} (hl : Limbs l) (hm : Limbs m) {k : Nat} {x y : Int} (hx : l[k]? = some x) (hy : m[k]? = some y) (hd : l.drop (k + 1) = m.drop (k + 1)) (h : x < y) : val l < val m := by
  have hk : k < l.length := (List.getElem?_eq_some_iff.1 hx).1
  have hk' : k < m.length := (List.getElem?_eq_some_iff.1 hy).1
  rw [val_split (l := l) (k + 1), val_split (l := m) (k + 1), hd, val_take_succ hx, val_take_succ hy]
  rw [List.length_take, List.length_take, Nat.min_eq_left (by omega), Nat.min_eq_left (by omega)]
  have h1 := val_lt (hl.take k)
  rw [List.length_take, Nat.min_eq_left (by omega)] at h1
  have h2 := val_nonneg (hm.take k)
  have h3 : (4294967296 : Int) ^ k * (x + 1) ≤ (4294967296 : Int) ^ k * y := Int.mul_le_mul_of_nonneg_left (by omega) (by have := pow_pos_B k; omega)
  rw [Int.mul_add] at h3
  omega

set_option maxHeartbeats 800000 in
theorem compareNat_eq {w : World} {A B : Option Addr} {c d : Nat} {l m : List Int} (ha : Ints w A 237 .u32 l) (hb : Ints w B 237 .u32 m) (hl : Limbs l) (hm : Limbs m)
    (h1 : l.length ≤ 9223372036854775807) (hn : m.length = l.length) :
    Calls Tryz.prog 220 #[.slice A l.length c, .slice B l.length d] w (RetVal w (.int .i64 (cmpI (val l) (val m)))) := by
  have HN := Lib.hid hn
  clear hn
  go_enter Tryz.func220, Tryz.ntmps220
  go_wp2
  go_loopw [5] (fun i wr => ∃ k : Nat, k ≤ l.length ∧ i = .int .i64 ((k : Int) - 1) ∧ Hid (l.drop k = m.drop k) ∧ Ext w wr) (fun i _ => (intOf i + 1).toNat)
  case atStart => exact ⟨l.length, by omega, rfl, by simp [Hid, HN.out], inferInstance⟩
  case round =>
    obtain ⟨k, hk, rfl, hd, hxr⟩ := hrel
    cases k with
    | zero =>
      go_wp2
      go_ret
      refine ⟨?_, hxr.toStep⟩
      have := hd.out
      simp only [List.drop_zero] at this
      rw [cmpI_eq (by rw [this])]; rfl
    | succ j =>
      obtain ⟨b, o, x, rfl, hx', hcx, hbx⟩ := (ha.ext hxr).at_ (i := j) (by omega)
      obtain ⟨b', o', y, rfl, hy', hcy, hby⟩ := (hb.ext hxr).at_ (i := j) (by have := HN.out; omega)
      obtain ⟨hx0, hx1⟩ := hl.get hx'
      obtain ⟨hy0, hy1⟩ := hm.get hy'
      have HX := Lib.hid hx'
      have HY := Lib.hid hy'
      clear hx' hy'
      rw [show ((j + 1 : Nat) : Int) - 1 = (j : Int) by omega]
      by_cases hlt : x < y
      · have hltb : decide (x < y) = true := by simpa using hlt
        have e1 := Lib.hid (cmpI_lt (val_lt_of_limb hl hm HX.out HY.out hd.out hlt))
        go_wp2
        go_quiet (fail)
        go_wp2
        go_ret
        exact ⟨by rw [e1.out]; rfl, (inferInstance : Ext w (wr.drewN nq)).toStep⟩
      · by_cases hgt : y < x
        · have hltb : decide (x < y) = false := by simpa using hlt
          have hgtb : decide (y < x) = true := by simpa using hgt
          have e1 := Lib.hid (cmpI_gt (val_lt_of_limb hm hl HY.out HX.out hd.out.symm hgt))
          clear hlt
          go_wp2
          go_quiet (fail)
          go_wp2
          go_quiet (fail)
          go_wp2
          go_ret
          exact ⟨by rw [e1.out]; rfl, (inferInstance : Ext w _).toStep⟩
        · obtain rfl : x = y := by omega
          have hd' : Hid (l.drop j = m.drop j) := by
            have h1 : j < l.length := (List.getElem?_eq_some_iff.1 HX.out).1
            have h2 : j < m.length := (List.getElem?_eq_some_iff.1 HY.out).1
            unfold Hid
            rw [List.drop_eq_getElem_cons h1, List.drop_eq_getElem_cons h2, hd.out, (List.getElem?_eq_some_iff.1 HX.out).2, (List.getElem?_eq_some_iff.1 HY.out).2]
          clear hlt hgt
          go_wp2
          go_quiet (fail)
          go_wp2
          go_quiet (fail)
          go_wp2
          exact ⟨⟨j, by omega, rfl, hd', inferInstance⟩, by simp [intOf] <;> omega⟩

set_option maxHeartbeats 800000 in
theorem compareNat_any {w0 w1 w : World} {A B : Option Addr} {c d : Nat} {l m : List Int} (ha : Ints w0 A 237 .u32 l) (hb : Ints w1 B 237 .u32 m) (hl : Limbs l) (hm : Limbs m) (tl : Tight l) (tm : Tight m)
    (h1 : l.length ≤ 9223372036854775807) (h2 : m.length ≤ 9223372036854775807) [hx : Ext w0 w] [hy : Ext w1 w] :
    Calls Tryz.prog 220 #[.slice A l.length c, .slice B m.length d] w (RetVal w (.int .i64 (cmpI (val l) (val m)))) := by
  by_cases hlt : l.length < m.length
  · have e1 := Lib.hid (cmpI_lt (tight_len_lt hl hm tm hlt))
    go_enter Tryz.func220, Tryz.ntmps220
    go_wp2
    go_ret
    exact ⟨by rw [e1.out]; rfl, Step.of _ _⟩
  by_cases hgt : m.length < l.length
  · have e1 := Lib.hid (cmpI_gt (tight_len_lt hm hl tl hgt))
    go_enter Tryz.func220, Tryz.ntmps220
    go_wp2
    go_ret
    exact ⟨by rw [e1.out]; rfl, Step.of _ _⟩
  have hn : m.length = l.length := by omega
  rw [hn]
  exact compareNat_eq (ha.ext hx) (hb.ext hy) hl hm h1 hn
end Go.Proofs.YtaaldapmkhamlaaGreat

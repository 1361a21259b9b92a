/-
  Contracts of the program's package integer: sums, differences, products, quotients of natural numbers.
-/
import Derived.Test.YtaaldapmkhamlaaGreatInt1
namespace Go.Proofs.YtaaldapmkhamlaaGreat
open Go.RowKit
theorem take_len {l : List Int} {j : Nat} (h : j ≤ l.length) : (l.take j).length = j := by rw [List.length_take, Nat.min_eq_left h]
theorem carry_step (P t : Int) : P * (t % 4294967296) + P * 4294967296 * (t / 4294967296) = P * t := by
  rw [Int.mul_assoc, ← Int.mul_add]
  congr 1
  omega
theorem val_carry {s : List Int} {k : Nat} (hk : s.length = k) (cy t V W : Int) (h : val s + (4294967296 : Int) ^ k * cy = V) (ht : (4294967296 : Int) ^ k * (t - cy) = W) :
    val (s ++ [t % 4294967296]) + (4294967296 : Int) ^ (k + 1) * (t / 4294967296) = V + W := by
  rw [val_snoc, hk, Int.pow_succ, Int.add_assoc, carry_step, ← h, ← ht, Int.mul_sub]
  omega
theorem val_take_all {l : List Int} {k : Nat} (h : l.length ≤ k) : val (l.take k) = val l := by rw [List.take_of_length_le h]
theorem snoc_len {s : List Int} {k : Nat} (h : s.length = k) (x : Int) : (s ++ [x]).length = k + 1 := by simp [h]
theorem Limbs.snoc {s : List Int} (h : Limbs s) {t : Int} (h0 : 0 ≤ t) (h1 : t < 4294967296) : Limbs (s ++ [t]) := h.append (Limbs.cons ⟨h0, h1⟩ Limbs.nil)
theorem Row.drewN {w : World} {g : Nat} {e : TypeId} {k : IntKind} {l : List Int} (h : Row w g e k l) (n : Nat) : Row (w.drewN n) g e k l := h
theorem Row.fill {w : World} {g : Nat} {e : TypeId} {k : IntKind} {s : List Int} {n : Nat} (h : Row w g e k (s ++ List.replicate n 0)) (hn : 0 < n) {i : Nat} (hi : s.length = i) (x : Int) :
    Row (w.setCell ⟨g, i, none⟩ (.int k x)) g e k ((s ++ [x]) ++ List.replicate (n - 1) 0) := by
  have := h.set i x
  rw [← hi] at this ⊢
  rwa [set_fill s n x hn] at this

set_option maxHeartbeats 1000000 in
theorem addNat_ge {w : World} {A B : Option Addr} {c d : Nat} {l m : List Int} (ha : Ints w A 237 .u32 l) (hb : Ints w B 237 .u32 m) (hl : Limbs l) (hm : Limbs m)
    (h1 : l.length ≤ 1099511627776) (hn : m.length ≤ l.length) :
    Calls Tryz.prog 207 #[.slice A l.length c, .slice B m.length d] w (RetNat w (val l + val m)) := by
  have hmk := run_make_ints (P := Tryz.prog) Tryz.underlying156 Tryz.infoU32 (by omega) ((l.length : Int) + 1) (by omega) (by omega)
  go_enter Tryz.func207, Tryz.ntmps207
  go_wp2
  go_loopw [6, 7, 22] (fun c _ i wr => ∃ (k : Nat) (s : List Int) (cy : Int), k ≤ m.length ∧ i = .int .i64 k ∧ c = .int .u64 cy ∧ 0 ≤ cy ∧ cy ≤ 1 ∧ Hid (s.length = k) ∧ Limbs s ∧ Hid (val s + (4294967296 : Int) ^ k * cy = val (l.take k) + val (m.take k)) ∧ Row wr w.heap.size 237 .u32 (s ++ List.replicate (l.length + 1 - k) 0) ∧ Ext w wr) (fun _ _ i _ => m.length - (intOf i).toNat)
  case atStart => exact ⟨0, [], 0, by omega, rfl, rfl, by omega, by omega, Lib.hid rfl, Limbs.nil, by simp [Hid, val], by simpa using Row.made w _ _ _, inferInstance⟩
  case round =>
    obtain ⟨k, s, cy, hk, rfl, rfl, hc0, hc1, HS, hs, hv, hrow, hxr⟩ := hrel
    by_cases hlt : k < m.length
    · obtain ⟨b, o, x, rfl, hx', hcx, hbx⟩ := (ha.ext hxr).at_ (i := k) (by omega)
      obtain ⟨b', o', y, rfl, hy', hcy, hby⟩ := (hb.ext hxr).at_ (i := k) (by omega)
      obtain ⟨hx0, hx1⟩ := hl.get hx'
      obtain ⟨hy0, hy1⟩ := hm.get hy'
      have HX := Lib.hid (val_take_succ hx')
      have HY := Lib.hid (val_take_succ hy')
      clear hx' hy'
      obtain ⟨q, hq, hcq⟩ := hrow.cell (i := k) (by simp [HS.out]; omega)
      have hfq := hrow.frozen k
      clear hq
      go_wp2
      go_quiet (fail)
      go_wp2
      refine ⟨⟨k + 1, s ++ [(cy + (x + y)) % 4294967296], _, by omega, by go_num, rfl, by omega, by omega, Lib.hid (snoc_len HS.out _), hs.snoc (by omega) (by omega), ?_, ?_, inferInstance⟩, by simp [intOf] <;> omega⟩
      · refine Lib.hid ?_
        rw [val_carry HS.out cy (cy + (x + y)) _ ((4294967296 : Int) ^ k * x + (4294967296 : Int) ^ k * y) hv.out (by rw [← Int.mul_add]; congr 1; omega), HX.out, HY.out]
        omega
      · rw [show l.length + 1 - (k + 1) = l.length + 1 - k - 1 by omega]
        exact (hrow.drewN nq).fill (by omega) HS.out _
    · obtain rfl : k = m.length := by omega
      have hv' := hv.out
      rw [val_take_all (Nat.le_refl _)] at hv'
      have HV := Lib.hid hv'
      clear hv hv' hlt
      go_wp2
      go_loopw [6, 8, 51] (fun c _ i wr => ∃ (k : Nat) (s : List Int) (cy : Int), m.length + k ≤ l.length ∧ i = .int .i64 k ∧ c = .int .u64 cy ∧ 0 ≤ cy ∧ cy ≤ 1 ∧ Hid (s.length = m.length + k) ∧ Limbs s ∧ Hid (val s + (4294967296 : Int) ^ (m.length + k) * cy = val (l.take (m.length + k)) + val m) ∧ Row wr w.heap.size 237 .u32 (s ++ List.replicate (l.length + 1 - (m.length + k)) 0) ∧ Ext w wr) (fun _ _ i _ => l.length - m.length - (intOf i).toNat)
      case atStart => exact ⟨0, s, cy, by omega, rfl, rfl, hc0, hc1, HS, hs, HV, hrow, hxr⟩
      case round =>
        clear HV HS hrow hs hxr hc0 hc1
        obtain ⟨k, s, cy, hk, rfl, rfl, hc0, hc1, HS, hs, hv, hrow, hxr⟩ := hrel
        by_cases hlt : m.length + k < l.length
        · obtain ⟨b, o, x, rfl, hx', hcx, hbx⟩ := (ha.ext hxr).at_ (i := m.length + k) (by omega)
          obtain ⟨hx0, hx1⟩ := hl.get hx'
          have HX := Lib.hid (val_take_succ hx')
          clear hx'
          obtain ⟨q, hq, hcq⟩ := hrow.cell (i := m.length + k) (by simp [HS.out]; omega)
          have hfq := hrow.frozen (m.length + k)
          clear hq
          go_wp2
          refine ⟨⟨k + 1, s ++ [(cy + x) % 4294967296], _, by omega, by go_num, rfl, by omega, by omega, Lib.hid (snoc_len HS.out _), hs.snoc (by omega) (by omega), ?_, ?_, inferInstance⟩, by simp [intOf] <;> omega⟩
          · refine Lib.hid ?_
            rw [show m.length + (k + 1) = m.length + k + 1 by omega, val_carry HS.out cy (cy + x) _ ((4294967296 : Int) ^ (m.length + k) * x) hv.out (by congr 1; omega), HX.out]
            omega
          · rw [show l.length + 1 - (m.length + (k + 1)) = l.length + 1 - (m.length + k) - 1 by omega]
            exact hrow.fill (by omega) HS.out _
        · have hk' : m.length + k = l.length := by omega
          rw [hk'] at hv hrow HS
          rw [show l.length + 1 - l.length = 1 by omega] at hrow
          have hfin := hv.out
          rw [val_take_all (Nat.le_refl _)] at hfin
          have HF := Lib.hid hfin
          clear hfin hv hk'
          obtain ⟨q, hq, hcq⟩ := hrow.cell (i := l.length) (by simp [HS.out])
          have hfq := hrow.frozen l.length
          clear hq
          have hrow' := hrow.fill (by omega) HS.out cy
          simp only [Nat.sub_self, List.replicate_zero, List.append_nil] at hrow'
          have hlen : (s ++ [cy]).length = l.length + 1 := snoc_len HS.out _
          have hT := trim_any (c := l.length + 1) hrow'.ints (by omega) (by omega)
          rw [hlen] at hT
          have HT := Lib.hid hT
          have HL := Lib.hid hlen
          clear hT hlen
          go_wp2_with (go_at_call 170; refine (HT.out).mono ?_; rintro e w' ⟨j, hj, ht, htv, rfl, rfl⟩)
          go_ret
          have hLs : Limbs (s ++ [cy]) := hs.snoc hc0 (by omega)
          refine ⟨_, l.length + 1, (s ++ [cy]).take j, ?_, hrow'.ints.take j, hLs.take j, ht, ?_, ?_, ?_, Step.of _ _⟩
          · rw [take_len hj]; rfl
          · rw [htv, val_snoc, HS.out, HF.out]
          · simp; have := HL.out; simp at this; omega
          · omega

set_option maxHeartbeats 1000000 in
theorem addNat_lt {w : World} {A B : Option Addr} {c d : Nat} {l m : List Int} (ha : Ints w A 237 .u32 l) (hb : Ints w B 237 .u32 m) (hl : Limbs l) (hm : Limbs m)
    (h1 : l.length ≤ 1099511627776) (hn : m.length < l.length) :
    Calls Tryz.prog 207 #[.slice B m.length d, .slice A l.length c] w (RetNat w (val l + val m)) := by
  have hmk := run_make_ints (P := Tryz.prog) Tryz.underlying156 Tryz.infoU32 (by omega) ((l.length : Int) + 1) (by omega) (by omega)
  go_enter Tryz.func207, Tryz.ntmps207
  go_wp2
  go_loopw [6, 7, 22] (fun c _ i wr => ∃ (k : Nat) (s : List Int) (cy : Int), k ≤ m.length ∧ i = .int .i64 k ∧ c = .int .u64 cy ∧ 0 ≤ cy ∧ cy ≤ 1 ∧ Hid (s.length = k) ∧ Limbs s ∧ Hid (val s + (4294967296 : Int) ^ k * cy = val (l.take k) + val (m.take k)) ∧ Row wr w.heap.size 237 .u32 (s ++ List.replicate (l.length + 1 - k) 0) ∧ Ext w wr) (fun _ _ i _ => m.length - (intOf i).toNat)
  case atStart => exact ⟨0, [], 0, by omega, rfl, rfl, by omega, by omega, Lib.hid rfl, Limbs.nil, by simp [Hid, val], by simpa using Row.made w _ _ _, inferInstance⟩
  case round =>
    obtain ⟨k, s, cy, hk, rfl, rfl, hc0, hc1, HS, hs, hv, hrow, hxr⟩ := hrel
    by_cases hlt : k < m.length
    · obtain ⟨b, o, x, rfl, hx', hcx, hbx⟩ := (ha.ext hxr).at_ (i := k) (by omega)
      obtain ⟨b', o', y, rfl, hy', hcy, hby⟩ := (hb.ext hxr).at_ (i := k) (by omega)
      obtain ⟨hx0, hx1⟩ := hl.get hx'
      obtain ⟨hy0, hy1⟩ := hm.get hy'
      have HX := Lib.hid (val_take_succ hx')
      have HY := Lib.hid (val_take_succ hy')
      clear hx' hy'
      obtain ⟨q, hq, hcq⟩ := hrow.cell (i := k) (by simp [HS.out]; omega)
      have hfq := hrow.frozen k
      clear hq
      go_wp2
      go_quiet (fail)
      go_wp2
      refine ⟨⟨k + 1, s ++ [(cy + (x + y)) % 4294967296], _, by omega, by go_num, rfl, by omega, by omega, Lib.hid (snoc_len HS.out _), hs.snoc (by omega) (by omega), ?_, ?_, inferInstance⟩, by simp [intOf] <;> omega⟩
      · refine Lib.hid ?_
        rw [val_carry HS.out cy (cy + (x + y)) _ ((4294967296 : Int) ^ k * x + (4294967296 : Int) ^ k * y) hv.out (by rw [← Int.mul_add]; congr 1; omega), HX.out, HY.out]
        omega
      · rw [show l.length + 1 - (k + 1) = l.length + 1 - k - 1 by omega]
        exact (hrow.drewN nq).fill (by omega) HS.out _
    · obtain rfl : k = m.length := by omega
      have hv' := hv.out
      rw [val_take_all (Nat.le_refl _)] at hv'
      have HV := Lib.hid hv'
      clear hv hv' hlt
      go_wp2
      go_loopw [6, 8, 51] (fun c _ i wr => ∃ (k : Nat) (s : List Int) (cy : Int), m.length + k ≤ l.length ∧ i = .int .i64 k ∧ c = .int .u64 cy ∧ 0 ≤ cy ∧ cy ≤ 1 ∧ Hid (s.length = m.length + k) ∧ Limbs s ∧ Hid (val s + (4294967296 : Int) ^ (m.length + k) * cy = val (l.take (m.length + k)) + val m) ∧ Row wr w.heap.size 237 .u32 (s ++ List.replicate (l.length + 1 - (m.length + k)) 0) ∧ Ext w wr) (fun _ _ i _ => l.length - m.length - (intOf i).toNat)
      case atStart => exact ⟨0, s, cy, by omega, rfl, rfl, hc0, hc1, HS, hs, HV, hrow, hxr⟩
      case round =>
        clear HV HS hrow hs hxr hc0 hc1
        obtain ⟨k, s, cy, hk, rfl, rfl, hc0, hc1, HS, hs, hv, hrow, hxr⟩ := hrel
        by_cases hlt : m.length + k < l.length
        · obtain ⟨b, o, x, rfl, hx', hcx, hbx⟩ := (ha.ext hxr).at_ (i := m.length + k) (by omega)
          obtain ⟨hx0, hx1⟩ := hl.get hx'
          have HX := Lib.hid (val_take_succ hx')
          clear hx'
          obtain ⟨q, hq, hcq⟩ := hrow.cell (i := m.length + k) (by simp [HS.out]; omega)
          have hfq := hrow.frozen (m.length + k)
          clear hq
          go_wp2
          refine ⟨⟨k + 1, s ++ [(cy + x) % 4294967296], _, by omega, by go_num, rfl, by omega, by omega, Lib.hid (snoc_len HS.out _), hs.snoc (by omega) (by omega), ?_, ?_, inferInstance⟩, by simp [intOf] <;> omega⟩
          · refine Lib.hid ?_
            rw [show m.length + (k + 1) = m.length + k + 1 by omega, val_carry HS.out cy (cy + x) _ ((4294967296 : Int) ^ (m.length + k) * x) hv.out (by congr 1; omega), HX.out]
            omega
          · rw [show l.length + 1 - (m.length + (k + 1)) = l.length + 1 - (m.length + k) - 1 by omega]
            exact hrow.fill (by omega) HS.out _
        · have hk' : m.length + k = l.length := by omega
          rw [hk'] at hv hrow HS
          rw [show l.length + 1 - l.length = 1 by omega] at hrow
          have hfin := hv.out
          rw [val_take_all (Nat.le_refl _)] at hfin
          have HF := Lib.hid hfin
          clear hfin hv hk'
          obtain ⟨q, hq, hcq⟩ := hrow.cell (i := l.length) (by simp [HS.out])
          have hfq := hrow.frozen l.length
          clear hq
          have hrow' := hrow.fill (by omega) HS.out cy
          simp only [Nat.sub_self, List.replicate_zero, List.append_nil] at hrow'
          have hlen : (s ++ [cy]).length = l.length + 1 := snoc_len HS.out _
          have hT := trim_any (c := l.length + 1) hrow'.ints (by omega) (by omega)
          rw [hlen] at hT
          have HT := Lib.hid hT
          have HL := Lib.hid hlen
          clear hT hlen
          go_wp2_with (go_at_call 170; refine (HT.out).mono ?_; rintro e w' ⟨j, hj, ht, htv, rfl, rfl⟩)
          go_ret
          have hLs : Limbs (s ++ [cy]) := hs.snoc hc0 (by omega)
          refine ⟨_, l.length + 1, (s ++ [cy]).take j, ?_, hrow'.ints.take j, hLs.take j, ht, ?_, ?_, ?_, Step.of _ _⟩
          · rw [take_len hj]; rfl
          · rw [htv, val_snoc, HS.out, HF.out]
          · simp; have := HL.out; simp at this; omega
          · omega

theorem addNat_any {w0 w1 w : World} {A B : Option Addr} {c d : Nat} {l m : List Int} (ha : Ints w0 A 237 .u32 l) (hb : Ints w1 B 237 .u32 m) (hl : Limbs l) (hm : Limbs m)
    (h1 : l.length ≤ 1099511627776) (h2 : m.length ≤ 1099511627776) [hx : Ext w0 w] [hy : Ext w1 w] :
    Calls Tryz.prog 207 #[.slice A l.length c, .slice B m.length d] w (RetNat w (val l + val m)) := by
  by_cases hn : m.length ≤ l.length
  · exact addNat_ge (ha.ext hx) (hb.ext hy) hl hm h1 hn
  · rw [Int.add_comm]
    exact addNat_lt (hb.ext hy) (ha.ext hx) hm hl h2 (by omega)

theorem borrow_lim (x cy y : Int) (hx0 : 0 ≤ x) (hx1 : x < 4294967296) (hc0 : 0 ≤ cy) (hc1 : cy ≤ 1) (hy0 : 0 ≤ y) (hy1 : y < 4294967296) :
    IntKind.u64.wrap (IntKind.u64.wrap (x - cy) - y) % 4294967296 = (x - cy - y) % 4294967296 ∧ IntKind.u64.wrap (IntKind.u64.wrap (x - cy) - y) / 9223372036854775808 = -((x - cy - y) / 4294967296) := by
  simp only [IntKind.wrap_u64]
  omega
theorem borrow_lim0 (x cy : Int) (hx0 : 0 ≤ x) (hx1 : x < 4294967296) (hc0 : 0 ≤ cy) (hc1 : cy ≤ 1) :
    IntKind.u64.wrap (x - cy) % 4294967296 = (x - cy) % 4294967296 ∧ IntKind.u64.wrap (x - cy) / 9223372036854775808 = -((x - cy) / 4294967296) := by
  simp only [IntKind.wrap_u64]
  omega
/-- A slice of which a part was cut off by trim, as a natural number. -/
theorem retNat_of_trim {w W : World} {g : Nat} {l : List Int} {j c : Nat} {z : Int} (hrow : Row W g 237 .u32 l) (hl : Limbs l) (hj : j ≤ l.length) (ht : Tight (l.take j)) (hv : val (l.take j) = val l) (hz : val l = z) (hc : l.length ≤ c) (hc2 : c ≤ 9223372036854775807) [hx : Ext w W] :
    RetNat w z (.returned (.slice (some ⟨g, 0, none⟩) j c)) W :=
  ⟨_, c, l.take j, by rw [take_len hj], hrow.ints.take j, hl.take j, ht, hv.trans hz, by rw [take_len hj]; omega, hc2, Step.of _ _⟩

set_option maxHeartbeats 1000000 in
theorem subNat_any {w0 w1 w : World} {A B : Option Addr} {c d : Nat} {l m : List Int} (ha' : Ints w0 A 237 .u32 l) (hb' : Ints w1 B 237 .u32 m) (hl : Limbs l) (hm : Limbs m)
    (h1 : l.length ≤ 1099511627776) (hn : m.length ≤ l.length) (hle : val m ≤ val l) [hx : Ext w0 w] [hy : Ext w1 w] :
    Calls Tryz.prog 208 #[.slice A l.length c, .slice B m.length d] w (RetNat w (val l - val m)) := by
  have ha := ha'.ext hx
  have hb := hb'.ext hy
  have hmk := run_make_ints (P := Tryz.prog) Tryz.underlying156 Tryz.infoU32 (by omega) (l.length : Int) (by omega) (by omega)
  go_enter Tryz.func208, Tryz.ntmps208
  go_wp2
  go_loopw [6, 7, 8, 14] (fun c _ _ i wr => ∃ (k : Nat) (s : List Int) (cy : Int), k ≤ l.length ∧ i = .int .i64 k ∧ c = .int .u64 cy ∧ 0 ≤ cy ∧ cy ≤ 1 ∧ Hid (s.length = k) ∧ Limbs s ∧ Hid (val s + (4294967296 : Int) ^ k * (-cy) = val (l.take k) - val (m.take k)) ∧ Row wr w.heap.size 237 .u32 (s ++ List.replicate (l.length - k) 0) ∧ Ext w wr) (fun _ _ _ i _ => l.length - (intOf i).toNat)
  case atStart => exact ⟨0, [], 0, by omega, rfl, rfl, by omega, by omega, Lib.hid rfl, Limbs.nil, by simp [Hid, val], by simpa using Row.made w _ _ _, inferInstance⟩
  case round =>
    obtain ⟨k, s, cy, hk, rfl, rfl, hc0, hc1, HS, hs, hv, hrow, hxr⟩ := hrel
    by_cases hlt : k < l.length
    · obtain ⟨b, o, x, rfl, hx', hcx, hbx⟩ := (ha.ext hxr).at_ (i := k) (by omega)
      obtain ⟨hx0, hx1⟩ := hl.get hx'
      have HX := Lib.hid (val_take_succ hx')
      clear hx'
      obtain ⟨q, hq, hcq⟩ := hrow.cell (i := k) (by simp [HS.out]; omega)
      have hfq := hrow.frozen k
      clear hq
      by_cases hkm : k < m.length
      · obtain ⟨b', o', y, rfl, hy', hcy, hby⟩ := (hb.ext hxr).at_ (i := k) (by omega)
        obtain ⟨hy0, hy1⟩ := hm.get hy'
        have HY := Lib.hid (val_take_succ hy')
        clear hy'
        go_wp2
        obtain ⟨e1, e2⟩ := borrow_lim x cy y hx0 hx1 hc0 hc1 hy0 hy1
        rw [e1, e2]
        refine ⟨⟨k + 1, s ++ [(x - cy - y) % 4294967296], _, by omega, by go_num, rfl, by omega, by omega, Lib.hid (snoc_len HS.out _), hs.snoc (by omega) (by omega), ?_, ?_, inferInstance⟩, by simp [intOf] <;> omega⟩
        · refine Lib.hid ?_
          rw [Int.neg_neg, val_carry HS.out (-cy) (x - cy - y) _ ((4294967296 : Int) ^ k * x - (4294967296 : Int) ^ k * y) hv.out (by rw [← Int.mul_sub]; congr 1; omega), HX.out, HY.out]
          omega
        · rw [show l.length - (k + 1) = l.length - k - 1 by omega]
          exact hrow.fill (by omega) HS.out _
      · have HY := Lib.hid (show val (m.take (k + 1)) = val (m.take k) by rw [val_take_all (by omega), val_take_all (by omega)])
        go_wp2
        obtain ⟨e1, e2⟩ := borrow_lim0 x cy hx0 hx1 hc0 hc1
        rw [e1, e2]
        refine ⟨⟨k + 1, s ++ [(x - cy) % 4294967296], _, by omega, by go_num, rfl, by omega, by omega, Lib.hid (snoc_len HS.out _), hs.snoc (by omega) (by omega), ?_, ?_, inferInstance⟩, by simp [intOf] <;> omega⟩
        · refine Lib.hid ?_
          rw [Int.neg_neg, val_carry HS.out (-cy) (x - cy) _ ((4294967296 : Int) ^ k * x) hv.out (by congr 1; omega), HX.out, HY.out]
          omega
        · rw [show l.length - (k + 1) = l.length - k - 1 by omega]
          exact hrow.fill (by omega) HS.out _
    · obtain rfl : k = l.length := by omega
      simp only [Nat.sub_self, List.replicate_zero, List.append_nil] at hrow
      have hfin := hv.out
      rw [val_take_all (Nat.le_refl _), val_take_all hn] at hfin
      have hs1 := val_lt hs
      rw [HS.out] at hs1
      have hp := pow_pos_B l.length
      have hcy : cy = 0 := by
        rcases (by omega : cy = 0 ∨ cy = 1) with h | h
        · exact h
        · subst h; omega
      subst hcy
      have HF := Lib.hid (show val s = val l - val m by simpa using hfin)
      clear hfin hv hs1 hp hc0 hc1
      have hT := trim_any (c := l.length) hrow.ints (by rw [HS.out]; omega) (by omega)
      rw [HS.out] at hT
      have HT := Lib.hid hT
      clear hT
      go_wp2_with (go_at_call 170; refine (HT.out).mono ?_; rintro e w' ⟨j, hj, ht, htv, rfl, rfl⟩)
      go_ret
      exact retNat_of_trim hrow hs hj ht htv HF.out (by rw [HS.out]; omega) (by omega)

theorem val_set {l : List Int} {i : Nat} {q : Int} (h : l[i]? = some q) (t : Int) : val (l.set i t) = val l + (4294967296 : Int) ^ i * (t - q) := by
  induction l generalizing i with
  | nil => simp at h
  | cons a l ih =>
    cases i with
    | zero => simp at h; subst h; simp [val]; omega
    | succ i =>
      simp only [List.getElem?_cons_succ] at h
      simp only [List.set_cons_succ, val, ih h, Int.pow_succ]
      rw [Int.mul_add, Int.mul_comm ((4294967296 : Int) ^ i) 4294967296, Int.mul_assoc, Int.add_assoc]
theorem Limbs.set {l : List Int} (h : Limbs l) (i : Nat) {t : Int} (h0 : 0 ≤ t) (h1 : t < 4294967296) : Limbs (l.set i t) := fun x hx => by
  rcases List.mem_or_eq_of_mem_set hx with hx | rfl
  · exact h x hx
  · exact ⟨h0, h1⟩
theorem val_replicate (n : Nat) : val (List.replicate n 0) = 0 := by
  induction n with
  | zero => rfl
  | succ n ih => simp [List.replicate_succ, val, ih]
/-- All entries from k on are 0. -/
def ZeroFrom (p : List Int) (k : Nat) : Prop := ∀ j x, k ≤ j → p[j]? = some x → x = 0
theorem ZeroFrom.set {p : List Int} {k : Nat} (h : ZeroFrom p k) {i : Nat} (hi : i < k) (t : Int) : ZeroFrom (p.set i t) k := fun j x hj hx => by
  rw [List.getElem?_set] at hx
  rw [if_neg (by omega)] at hx
  exact h j x hj hx
theorem ZeroFrom.mono {p : List Int} {k k' : Nat} (h : ZeroFrom p k) (hk : k ≤ k') : ZeroFrom p k' := fun j x hj hx => h j x (by omega) hx
theorem limb_prod (x y : Int) (hx0 : 0 ≤ x) (hx1 : x < 4294967296) (hy0 : 0 ≤ y) (hy1 : y < 4294967296) : 0 ≤ x * y ∧ x * y ≤ 18446744065119617025 := by
  constructor
  · exact Int.mul_nonneg hx0 hy0
  · have h1 : x * y ≤ 4294967295 * y := Int.mul_le_mul_of_nonneg_right (by omega) hy0
    omega

set_option maxHeartbeats 1000000 in
theorem mulNat_big {w : World} {A B : Option Addr} {c d : Nat} {l m : List Int} (ha : Ints w A 237 .u32 l) (hb : Ints w B 237 .u32 m) (hl : Limbs l) (hm : Limbs m)
    (h1 : l.length ≤ 1099511627776) (h2 : m.length ≤ 1099511627776) (hbig : 1 < l.length ∨ 1 < m.length) :
    Calls Tryz.prog 210 #[.slice A l.length c, .slice B m.length d] w (RetNat w (val l * val m)) := by
  have hmk := run_make_ints (P := Tryz.prog) Tryz.underlying156 Tryz.infoU32 (by omega) ((l.length : Int) + m.length) (by omega) (by omega)
  go_enter Tryz.func210, Tryz.ntmps210
  by_cases hl1 : l.length ≤ 1
  all_goals
    first
      | (have hmb : decide ((m.length : Int) ≤ 1) = false := by simp; omega)
      | skip
    go_wp2
    go_loopw [6, 7, 8, 9, 10, 11, 34] (fun _ _ _ _ _ _ i wr => ∃ (k : Nat) (p : List Int), k ≤ l.length ∧ i = .int .i64 k ∧ Hid (p.length = l.length + m.length) ∧ Limbs p ∧ ZeroFrom p (k + m.length) ∧ Hid (val p = val (l.take k) * val m) ∧ Row wr w.heap.size 237 .u32 p ∧ Ext w wr) (fun _ _ _ _ _ _ i _ => l.length - (intOf i).toNat)
    case atStart =>
      refine ⟨0, List.replicate (l.length + m.length) 0, by omega, rfl, Lib.hid (by simp), ?_, ?_, ?_, Row.made w _ _ _, inferInstance⟩
      · intro x hx; rw [List.eq_of_mem_replicate hx]; omega
      · intro j x _ hx; exact List.eq_of_mem_replicate (List.mem_of_getElem? hx)
      · refine Lib.hid ?_
        rw [val_replicate]; simp [val]
    case round =>
      obtain ⟨k, p, hk, rfl, HP, hp, hz, hv, hrow, hxr⟩ := hrel
      by_cases hlt : k < l.length
      · obtain ⟨b, o, x, rfl, hx', hcx, hbx⟩ := (ha.ext hxr).at_ (i := k) (by omega)
        obtain ⟨hx0, hx1⟩ := hl.get hx'
        have HX := Lib.hid (val_take_succ hx')
        clear hx'
        by_cases hxz : x = 0
        · subst hxz
          go_wp2
          refine ⟨⟨k + 1, p, by omega, by go_num, HP, hp, hz.mono (by omega), ?_, hrow, hxr⟩, by simp [intOf] <;> omega⟩
          refine Lib.hid ?_
          rw [HX.out, hv.out]; simp
        · have hxb : (x == 0) = false := by simp [hxz]
          clear hxz
          go_wp2
          go_loopw [9, 10, 11, 51] (fun cy _ _ j wr' => ∃ (q : Nat) (p' : List Int) (cv : Int), q ≤ m.length ∧ j = .int .i64 q ∧ cy = .int .u64 cv ∧ 0 ≤ cv ∧ cv < 4294967296 ∧ Hid (p'.length = l.length + m.length) ∧ Limbs p' ∧ ZeroFrom p' (k + m.length) ∧ Hid (val p' + (4294967296 : Int) ^ (k + q) * cv = val p + (4294967296 : Int) ^ k * (x * val (m.take q))) ∧ Row wr' w.heap.size 237 .u32 p' ∧ Ext w wr') (fun _ _ _ j _ => m.length - (intOf j).toNat)
          case atStart => exact ⟨0, p, 0, by omega, rfl, rfl, by omega, by omega, HP, hp, hz, Lib.hid (by simp [val]), hrow, hxr⟩
          case round =>
            obtain ⟨q, p', cv, hq, rfl, rfl, hc0, hc1, HP', hp', hz', hv', hrow', hxr'⟩ := hrel
            by_cases hlt' : q < m.length
            · obtain ⟨b', o', y, rfl, hy', hcy, hby⟩ := (hb.ext hxr').at_ (i := q) (by omega)
              obtain ⟨hy0, hy1⟩ := hm.get hy'
              have HY := Lib.hid (val_take_succ hy')
              clear hy'
              obtain ⟨hxy0, hxy1⟩ := limb_prod x y hx0 hx1 hy0 hy1
              obtain ⟨r, hr, hcr⟩ := hrow'.cell (i := k + q) (by rw [HP'.out]; omega)
              have hfr := hrow'.frozen (k + q)
              obtain ⟨hr0, hr1⟩ := hp'.get hr
              have HR := Lib.hid hr
              clear hr
              go_wp2
              refine ⟨⟨q + 1, p'.set (k + q) ((cv + (x * y + r)) % 4294967296), _, by omega, by go_num, rfl, by omega, by omega, Lib.hid (by rw [List.length_set]; exact HP'.out), hp'.set _ (by omega) (by omega), hz'.set (by omega) _, ?_, hrow'.set _ _, inferInstance⟩, by simp [intOf] <;> omega⟩
              refine Lib.hid ?_
              rw [val_set HR.out, HY.out]
              have e1 := carry_step ((4294967296 : Int) ^ (k + q)) (cv + (x * y + r))
              have e2 := hv'.out
              rw [show k + (q + 1) = k + q + 1 by omega, Int.pow_succ]
              have e3 : (4294967296 : Int) ^ k * (x * (val (m.take q) + (4294967296 : Int) ^ q * y)) = (4294967296 : Int) ^ k * (x * val (m.take q)) + (4294967296 : Int) ^ (k + q) * (x * y) := by
                rw [Int.pow_add, Int.mul_add, Int.mul_add, Int.mul_assoc, Int.mul_left_comm x]
              rw [e3]
              simp only [Int.mul_sub, Int.mul_add] at e1 ⊢
              omega
            · obtain rfl : q = m.length := by omega
              obtain ⟨r, hr, hcr⟩ := hrow'.cell (i := k + m.length) (by rw [HP'.out]; omega)
              have hfr := hrow'.frozen (k + m.length)
              obtain rfl : r = 0 := hz' _ _ (Nat.le_refl _) hr
              have HR := Lib.hid hr
              clear hr
              go_wp2
              refine ⟨⟨k + 1, p'.set (k + m.length) cv, by omega, by go_num, Lib.hid (by rw [List.length_set]; exact HP'.out), hp'.set _ hc0 hc1, (hz'.mono (by omega)).set (by omega) _, ?_, hrow'.set _ _, inferInstance⟩, by simp [intOf] <;> omega⟩
              refine Lib.hid ?_
              have e2 := hv'.out
              rw [val_take_all (Nat.le_refl _)] at e2
              rw [val_set HR.out, HX.out, Int.sub_zero, e2, hv.out, Int.add_mul, Int.mul_assoc]
      · obtain rfl : k = l.length := by omega
        have hfin := hv.out
        rw [val_take_all (Nat.le_refl _)] at hfin
        have HF := Lib.hid hfin
        clear hfin hv
        have hT := trim_any (c := l.length + m.length) hrow.ints (by rw [HP.out]; omega) (by omega)
        rw [HP.out] at hT
        have HT := Lib.hid hT
        clear hT
        go_wp2_with (go_at_call 170; refine (HT.out).mono ?_; rintro e w' ⟨j, hj, ht, htv, rfl, rfl⟩)
        go_ret
        exact retNat_of_trim hrow hp hj ht htv HF.out (by rw [HP.out]; omega) (by omega)

theorem word_prod {l m : List Int} (hl : Limbs l) (hm : Limbs m) (h1 : l.length ≤ 1) (h2 : m.length ≤ 1) : 0 ≤ val l ∧ val l < 4294967296 ∧ 0 ≤ val m ∧ val m < 4294967296 ∧ 0 ≤ val l * val m ∧ val l * val m ≤ 18446744065119617025 := by
  have a1 := val_nonneg hl
  have a2 := val_lt hl
  have a3 := val_nonneg hm
  have a4 := val_lt hm
  have a5 := pow_mono_B h1
  have a6 := pow_mono_B h2
  simp only [Int.pow_one] at a5 a6
  have := limb_prod (val l) (val m) a1 (by omega) a3 (by omega)
  omega

set_option maxHeartbeats 1000000 in
theorem mulNat_any {w0 w1 w : World} {A B : Option Addr} {c d : Nat} {l m : List Int} (ha' : Ints w0 A 237 .u32 l) (hb' : Ints w1 B 237 .u32 m) (hl : Limbs l) (hm : Limbs m)
    (h1 : l.length ≤ 1099511627776) (h2 : m.length ≤ 1099511627776) [hx : Ext w0 w] [hy : Ext w1 w] :
    Calls Tryz.prog 210 #[.slice A l.length c, .slice B m.length d] w (RetNat w (val l * val m)) := by
  have ha := ha'.ext hx
  have hb := hb'.ext hy
  by_cases hl1 : l.length ≤ 1
  · by_cases hm1 : m.length ≤ 1
    · obtain ⟨a1, a2, a3, a4, a5, a6⟩ := word_prod hl hm hl1 hm1
      have hw1 := Lib.hid (word_any (c := c) ha hl (by omega))
      have hw2 := Lib.hid (word_any (c := d) hb hm (by omega))
      have hmb : decide ((m.length : Int) ≤ 1) = true := by simp; omega
      go_enter Tryz.func210, Tryz.ntmps210
      go_wp2_with fail
      refine hw1.out.mono ?_
      rintro e w' ⟨rfl, rfl⟩
      go_wp2_with fail
      refine hw2.out.mono ?_
      rintro e w' ⟨rfl, rfl⟩
      go_wp2_with fail
      refine (fromWord_any _ a5 (by omega) _).mono ?_
      rintro e w' ⟨B1, d1, l1, rfl, h⟩
      go_wp2
      go_ret
      exact ⟨B1, d1, l1, rfl, h⟩
    · exact mulNat_big ha hb hl hm h1 h2 (by omega)
  · exact mulNat_big ha hb hl hm h1 h2 (by omega)
end Go.Proofs.YtaaldapmkhamlaaGreat

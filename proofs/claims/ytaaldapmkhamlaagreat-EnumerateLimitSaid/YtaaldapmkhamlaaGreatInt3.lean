/-
  Contracts of the program's package integer: signed integers.
-/
import Derived.Test.YtaaldapmkhamlaaGreatInt2
import Derived.Test.YtaaldapmkhamlaaGreatApp
import Derived.Deep.RegionHeld3
namespace Go.Proofs.YtaaldapmkhamlaaGreat
open Go.RowKit

set_option maxHeartbeats 400000 in
theorem addSigned_any {w0 w1 w : World} {A B : Option Addr} {c d : Nat} {l m : List Int} (na nb : Bool) (ha : Ints w0 A 237 .u32 l) (hb : Ints w1 B 237 .u32 m) (hl : Limbs l) (hm : Limbs m) (tl : Tight l) (tm : Tight m)
    (h1 : l.length ≤ 1099511627776) (h2 : m.length ≤ 1099511627776) [hx : Ext w0 w] [hy : Ext w1 w] :
    Calls Tryz.prog 209 #[.bool na, .slice A l.length c, .bool nb, .slice B m.length d] w (RetInt w (sgn na (val l) + sgn nb (val m))) := by
  by_cases hn : na = nb
  · subst hn
    go_enter Tryz.func209, Tryz.ntmps209
    go_wp2_with fail
    refine (addNat_any ha hb hl hm h1 h2).mono ?_
    rintro e w1 ⟨B1, d1, l1, rfl, hi1, hl1, ht1, hv1, hd1, hd2, hs1⟩
    have HV := Lib.hid hv1
    clear hv1
    go_wp2_with fail
    refine (build_any na hi1 hl1 ht1 hd1 hd2).mono ?_
    rintro e w2 ⟨g, B, k, d, rfl, hz, hs2⟩
    obtain ⟨q0, q1, q2, q3, q4, q5⟩ := box2 w w2 (.bool false) (.slice none 0 0) 158
    have Q0 := Lib.hid q0
    clear q0
    go_wp2
    refine bodyPost_ret (v := .agg #[.bool g, .slice B k d]) (by simp [results, Tryz.results209, go_sem, q1, q2]) rfl ⟨_, _, _, _, rfl, ?_, Step.of _ _⟩
    have e1 : sgn na (val l1) = sgn na (val l) + sgn na (val m) := by rw [HV.out]; cases na <;> simp [sgn]; omega
    rw [e1] at hz
    exact hz.boxed (by decide) Q0.out _ _
  · have hnb : (na == nb) = false := by simp [hn]
    by_cases hle : val m ≤ val l
    · have hlen : m.length ≤ l.length := by
        rcases Nat.lt_or_ge l.length m.length with h | h
        · have := tight_len_lt hl hm tm h; omega
        · exact h
      have hc : cmpI (val l) (val m) = 0 ∨ cmpI (val l) (val m) = 1 := by unfold cmpI; split; omega; split <;> simp
      have hge : 0 ≤ cmpI (val l) (val m) := by omega
      have HE := Lib.hid (show sgn na (val l - val m) = sgn na (val l) + sgn nb (val m) by cases na <;> cases nb <;> simp_all [sgn] <;> omega)
      clear hn hc
      go_enter Tryz.func209, Tryz.ntmps209
      go_wp2_with fail
      refine (compareNat_any ha hb hl hm tl tm (by omega) (by omega)).mono ?_
      rintro e w3 ⟨rfl, hs3⟩
      go_wp2_with fail
      refine (subNat_any ha hb hl hm h1 hlen hle).mono ?_
      rintro e w1 ⟨B1, d1, l1, rfl, hi1, hl1, ht1, hv1, hd1, hd2, hs1⟩
      have HV := Lib.hid hv1
      clear hv1
      go_wp2_with fail
      refine (build_any na hi1 hl1 ht1 hd1 hd2).mono ?_
      rintro e w2 ⟨g, B, k, d, rfl, hz, hs2⟩
      obtain ⟨q0, q1, q2, q3, q4, q5⟩ := box2 w w2 (.bool false) (.slice none 0 0) 158
      have Q0 := Lib.hid q0
      clear q0
      go_wp2
      refine bodyPost_ret (v := .agg #[.bool g, .slice B k d]) (by simp [results, Tryz.results209, go_sem, q1, q2]) rfl ⟨_, _, _, _, rfl, ?_, Step.of _ _⟩
      rw [HV.out, HE.out] at hz
      exact hz.boxed (by decide) Q0.out _ _
    · have hlen : l.length ≤ m.length := by
        rcases Nat.lt_or_ge m.length l.length with h | h
        · have := tight_len_lt hm hl tl h; omega
        · exact h
      have hc := cmpI_lt (show val l < val m by omega)
      have HE := Lib.hid (show sgn nb (val m - val l) = sgn na (val l) + sgn nb (val m) by cases na <;> cases nb <;> simp_all [sgn] <;> omega)
      clear hn
      go_enter Tryz.func209, Tryz.ntmps209
      go_wp2_with fail
      refine (compareNat_any ha hb hl hm tl tm (by omega) (by omega)).mono ?_
      rintro e w3 ⟨rfl, hs3⟩
      go_wp2_with fail
      refine (subNat_any hb ha hm hl h2 hlen (by omega)).mono ?_
      rintro e w1 ⟨B1, d1, l1, rfl, hi1, hl1, ht1, hv1, hd1, hd2, hs1⟩
      have HV := Lib.hid hv1
      clear hv1
      go_wp2_with fail
      refine (build_any nb hi1 hl1 ht1 hd1 hd2).mono ?_
      rintro e w2 ⟨g, B, k, d, rfl, hz, hs2⟩
      obtain ⟨q0, q1, q2, q3, q4, q5⟩ := box2 w w2 (.bool false) (.slice none 0 0) 158
      have Q0 := Lib.hid q0
      clear q0
      go_wp2
      refine bodyPost_ret (v := .agg #[.bool g, .slice B k d]) (by simp [results, Tryz.results209, go_sem, q1, q2]) rfl ⟨_, _, _, _, rfl, ?_, Step.of _ _⟩
      rw [HV.out, HE.out] at hz
      exact hz.boxed (by decide) Q0.out _ _

theorem trimV_any {w0 w : World} {neg : Bool} {A : Option Addr} {n c : Nat} {z : Int} (h : IntV w0 neg A n c z) [hx : Ext w0 w] :
    Calls Tryz.prog 170 #[.slice A n c] w (RetSame w (.slice A n c)) := by
  obtain ⟨l, rfl, h2, h3, h4, h5, h6, h7, h8⟩ := h
  refine (trim_any (h6.ext hx) h7 h8).mono ?_
  rintro e w' ⟨m, hm, ht, hv, rfl, rfl⟩
  have : m = l.length := by
    have e1 : val (l.drop m) = 0 := by
      have := val_split (l := l) m
      have hp := pow_pos_B (l.take m).length
      have h9 : (4294967296 : Int) ^ (l.take m).length * val (l.drop m) = 0 := by omega
      rcases Int.mul_eq_zero.1 h9 with h | h
      · omega
      · exact h
    have e2 : Tight (l.drop m) := by
      intro hh
      apply h3
      rw [List.getLast?_drop] at hh
      split at hh
      · simp at hh
      · exact hh
    have e3 := (tight_zero (h2.drop m) e2).1 e1
    have := List.drop_eq_nil_iff.1 e3
    omega
  subst this
  exact ⟨rfl, rfl⟩

theorem IntV.boxedN {w : World} {g : Bool} {B : Option Addr} {k d : Nat} {z z' : Int} (hz : IntV w g B k d z) (he : z = z') {s : Nat} {cs : Array Value} {T : TypeId} (hT : 237 ≠ T) (q : w.heap[s]? = some (.cells cs T (0, 0))) (u v : Value) :
    IntV ((w.setCell ⟨s, 0, none⟩ u).setCell ⟨s, 1, none⟩ v) g B k d z' := he ▸ hz.boxed hT q u v
set_option maxHeartbeats 400000 in
theorem Sub_any {w0 w1 w : World} {na nb : Bool} {A B : Option Addr} {n k c d : Nat} {x y : Int} (ha : IntV w0 na A n c x) (hb : IntV w1 nb B k d y)
    (h1 : n ≤ 1099511627776) (h2 : k ≤ 1099511627776) [hx : Ext w0 w] [hy : Ext w1 w] :
    Calls Tryz.prog 183 #[.agg #[.bool na, .slice A n c], .agg #[.bool nb, .slice B k d]] w (RetInt w (x - y)) := by
  obtain ⟨la, rfl, hl, tl, hv, hsx, hi, h7, h8⟩ := id ha
  obtain ⟨lb, rfl, hl', tl', hv', hsy, hi', h7', h8'⟩ := id hb
  have HE := Lib.hid (show sgn na (val la) + sgn (!nb) (val lb) = x - y by subst hsx hsy; rw [hv, hv']; unfold sgn; split <;> split <;> simp_all <;> omega)
  clear hv hv' hsx hsy
  go_enter Tryz.func183, Tryz.ntmps183
  go_wp2
  go_region_held3 (fun w' => w'.cell? ⟨w.heap.size, 0, none⟩ = some (.bool na) ∧ w'.cell? ⟨w.heap.size, 1, none⟩ = some (.slice A la.length c) ∧ w'.cell? ⟨w.heap.size + 1, 0, none⟩ = some (.bool nb) ∧ w'.cell? ⟨w.heap.size + 1, 1, none⟩ = some (.slice B lb.length d)) (exact boxes2 w _ _ _ _ _ 158 158)
    (first
      | (go_at_call_of 170 (Value.slice A la.length c); refine (trimV_any ha).mono ?_; rintro e w' ⟨rfl, rfl⟩)
      | (go_at_call_of 170 (Value.slice B lb.length d); refine (trimV_any hb).mono ?_; rintro e w' ⟨rfl, rfl⟩)
      | (go_at_call 209; refine (addSigned_any na (!nb) hi hi' hl hl' tl tl' h1 h2).mono ?_; rintro e w2 ⟨g, B1, k1, d1, rfl, hz, hs2⟩; obtain ⟨q0, q1, q2, q3, q4, q5⟩ := box2_2 w w2 (.cells #[.bool na, .slice A la.length c] 158) (.cells #[.bool nb, .slice B lb.length d] 158) (.bool false) (.slice none 0 0) 158))
  have Q0 := Lib.hid q0
  clear q0
  go_wp2
  exact bodyPost_ret (v := .agg #[.bool g, .slice B1 k1 d1]) (by simp [results, Tryz.results183, go_sem, q1, q2]) rfl ⟨_, _, _, _, rfl, hz.boxedN HE.out (by decide) Q0.out _ _, Step.of _ _⟩

theorem IntV.zero_iff {w : World} {neg : Bool} {A : Option Addr} {n c : Nat} {z : Int} (h : IntV w neg A n c z) : n = 0 ↔ z = 0 := by
  obtain ⟨l, rfl, h2, h3, h4, _⟩ := h
  have := tight_zero h2 h3
  constructor
  · intro hn
    have hl := List.eq_nil_of_length_eq_zero hn
    subst hl
    simp [val] at h4; omega
  · rintro rfl
    have := this.1 (by rw [h4]; rfl)
    subst this; rfl
theorem IntV.neg_eq {w : World} {neg : Bool} {A : Option Addr} {n c : Nat} {z : Int} (h : IntV w neg A n c z) : neg = decide (z < 0) := by
  obtain ⟨l, _, _, _, _, h5, _⟩ := h; exact h5

set_option maxHeartbeats 400000 in
theorem Mul_any {w0 w1 w : World} {na nb : Bool} {A B : Option Addr} {n k c d : Nat} {x y : Int} (ha : IntV w0 na A n c x) (hb : IntV w1 nb B k d y)
    (h1 : n ≤ 1099511627776) (h2 : k ≤ 1099511627776) [hx : Ext w0 w] [hy : Ext w1 w] :
    Calls Tryz.prog 184 #[.agg #[.bool na, .slice A n c], .agg #[.bool nb, .slice B k d]] w (RetInt w (x * y)) := by
  obtain ⟨la, rfl, hl, tl, hv, hsx, hi, h7, h8⟩ := id ha
  obtain ⟨lb, rfl, hl', tl', hv', hsy, hi', h7', h8'⟩ := id hb
  have HE := Lib.hid (show sgn (na != nb) (val la * val lb) = x * y by
    subst hsx hsy
    rw [hv, hv', ← Int.natCast_mul, ← Int.natAbs_mul]
    unfold sgn
    by_cases hx : x < 0 <;> by_cases hy : y < 0 <;> simp [hx, hy]
    · have := Int.mul_pos_of_neg_of_neg hx hy; omega
    · have := Int.mul_nonpos_of_nonpos_of_nonneg (Int.le_of_lt hx) (by omega : 0 ≤ y); omega
    · have := Int.mul_nonpos_of_nonneg_of_nonpos (by omega : 0 ≤ x) (Int.le_of_lt hy); omega
    · have := Int.mul_nonneg (by omega : 0 ≤ x) (by omega : 0 ≤ y); omega)
  clear hv hv' hsx hsy
  go_enter Tryz.func184, Tryz.ntmps184
  go_wp2
  go_region_held3 (fun w' => w'.cell? ⟨w.heap.size, 0, none⟩ = some (.bool na) ∧ w'.cell? ⟨w.heap.size, 1, none⟩ = some (.slice A la.length c) ∧ w'.cell? ⟨w.heap.size + 1, 0, none⟩ = some (.bool nb) ∧ w'.cell? ⟨w.heap.size + 1, 1, none⟩ = some (.slice B lb.length d)) (exact boxes2 w _ _ _ _ _ 158 158)
    (first
      | (go_at_call_of 170 (Value.slice A la.length c); refine (trimV_any ha).mono ?_; rintro e w' ⟨rfl, rfl⟩)
      | (go_at_call_of 170 (Value.slice B lb.length d); refine (trimV_any hb).mono ?_; rintro e w' ⟨rfl, rfl⟩)
      | (go_at_call 210; refine (mulNat_any hi hi' hl hl' h1 h2).mono ?_; rintro e w3 ⟨B1, d1, l1, rfl, hi1, hl1, ht1, hv1, hd1, hd2, hs1⟩; have HV := Lib.hid hv1; clear hv1)
      | (go_at_call 168; refine (build_any (na != nb) hi1 hl1 ht1 hd1 hd2).mono ?_; rintro e w2 ⟨g, B2, k2, d2, rfl, hz, hs2⟩; obtain ⟨q0, q1, q2, q3, q4, q5⟩ := box2_2 w w2 (.cells #[.bool na, .slice A la.length c] 158) (.cells #[.bool nb, .slice B lb.length d] 158) (.bool false) (.slice none 0 0) 158))
  have Q0 := Lib.hid q0
  clear q0
  go_wp2
  exact bodyPost_ret (v := .agg #[.bool g, .slice B2 k2 d2]) (by simp [results, Tryz.results184, go_sem, q1, q2]) rfl ⟨_, _, _, _, rfl, hz.boxedN (by rw [HV.out]; exact HE.out) (by decide) Q0.out _ _, Step.of _ _⟩

set_option maxHeartbeats 400000 in
theorem Sign_any {w0 w : World} {na : Bool} {A : Option Addr} {n c : Nat} {x : Int} (ha : IntV w0 na A n c x) [hx : Ext w0 w] :
    Calls Tryz.prog 140 #[.agg #[.bool na, .slice A n c]] w (RetVal w (.int .i64 (cmpI x 0))) := by
  have hz := ha.zero_iff
  have hn := ha.neg_eq
  by_cases h0 : x = 0
  · obtain rfl := hz.2 h0
    have HE := Lib.hid (cmpI_eq h0)
    clear hz hn h0
    go_enter Tryz.func140, Tryz.ntmps140
    go_wp2_with (go_at_call 170; refine (trimV_any ha).mono ?_; rintro e w' ⟨rfl, rfl⟩)
    go_ret
    exact ⟨by rw [HE.out]; rfl, Step.of _ _⟩
  · have hn0 : ((n : Int) == 0) = false := by simp; exact fun h => h0 (hz.1 h)
    by_cases hneg : x < 0
    · have HE := Lib.hid (cmpI_lt hneg)
      obtain rfl : na = true := by simp [hn, hneg]
      clear hz hn h0 hneg
      go_enter Tryz.func140, Tryz.ntmps140
      go_wp2_with (go_at_call 170; refine (trimV_any ha).mono ?_; rintro e w' ⟨rfl, rfl⟩)
      go_ret
      exact ⟨by rw [HE.out]; rfl, Step.of _ _⟩
    · have HE := Lib.hid (cmpI_gt (show 0 < x by omega))
      obtain rfl : na = false := by simp [hn]; omega
      clear hz hn h0 hneg
      go_enter Tryz.func140, Tryz.ntmps140
      go_wp2_with (go_at_call 170; refine (trimV_any ha).mono ?_; rintro e w' ⟨rfl, rfl⟩)
      go_ret
      exact ⟨by rw [HE.out]; rfl, Step.of _ _⟩

theorem wordV_any {w0 w : World} {neg : Bool} {A : Option Addr} {n c : Nat} {z : Int} (h : IntV w0 neg A n c z) (h2 : n ≤ 2) [hx : Ext w0 w] :
    Calls Tryz.prog 171 #[.slice A n c] w (RetSame w (.int .u64 z.natAbs)) := by
  obtain ⟨l, rfl, hl, h3, h4, h5, h6, h7, h8⟩ := h
  rw [← h4]
  exact word_any (h6.ext hx) hl h2

set_option maxHeartbeats 400000 in
theorem Int64_fit {w0 w : World} {na : Bool} {A : Option Addr} {n c : Nat} {x : Int} (ha : IntV w0 na A n c x) (h0 : -9223372036854775808 ≤ x) (h1 : x ≤ 9223372036854775807) [hx : Ext w0 w] :
    Calls Tryz.prog 126 #[.agg #[.bool na, .slice A n c]] w (RetVal w (.tuple #[.int .i64 x, .bool true])) := by
  have hn := ha.neg_eq
  have hlen : n ≤ 2 := ha.len (k := 2) (by omega)
  by_cases hneg : x < 0
  · obtain rfl : na = true := by simp [hn, hneg]
    have hab : (x.natAbs : Int) = -x := by omega
    have hw := wordV_any (w := w.alloc (.cells #[.bool true, .slice A n c] 158)) ha hlen
    rw [hab] at hw
    have HW := Lib.hid hw
    clear hn hw hab
    have hle : decide (-x ≤ 9223372036854775808) = true := by simp; omega
    go_enter Tryz.func126, Tryz.ntmps126
    go_wp2_with (first
      | (go_at_call 170; refine (trimV_any ha).mono ?_; rintro e w' ⟨rfl, rfl⟩)
      | (go_at_call 171; refine HW.out.mono ?_; rintro e w' ⟨rfl, rfl⟩))
    go_ret2
    refine ⟨?_, Step.of _ _⟩
    have e1 : wrap64 (IntKind.u64.wrap x) = x := by simp only [wrap64, IntKind.wrap_u64, IntKind.wrap_i64]; omega
    simp [e1]
  · obtain rfl : na = false := by simp [hn]; omega
    have hab : (x.natAbs : Int) = x := by omega
    have hw := wordV_any (w := w.alloc (.cells #[.bool false, .slice A n c] 158)) ha hlen
    rw [hab] at hw
    have HW := Lib.hid hw
    clear hn hw hab
    have hx0 : 0 ≤ x := by omega
    clear hneg
    go_enter Tryz.func126, Tryz.ntmps126
    go_wp2_with (first
      | (go_at_call 170; refine (trimV_any ha).mono ?_; rintro e w' ⟨rfl, rfl⟩)
      | (go_at_call 171; refine HW.out.mono ?_; rintro e w' ⟨rfl, rfl⟩))
    go_ret2
    refine ⟨?_, Step.of _ _⟩
    simp

theorem run_eql_nil {P : Program} {t e : TypeId} (h : P.underlying t = some (.slice e)) (a : Option Addr) (n c : Nat) (w : World) :
    (binOp .eql t (.slice a n c) (.slice none 0 0)).run P w = .ok (.bool a.isNone) w := by
  simp only [binOp]
  simp [Op.equal, Op.maxDepth, Lib.run_equalIn_slice_nil w 9999 t e a n c 0 0 h]
/-- A new slice with the same numbers. -/
def RetClone (w : World) (e : TypeId) (k : IntKind) (l : List Int) (ev : Ending) (w' : World) : Prop := ∃ B d, ev = .returned (.slice B l.length d) ∧ Ints w' B e k l ∧ l.length ≤ d ∧ d ≤ 9223372036854775807 ∧ Step w w'
theorem oneCell_ints {k : IntKind} {l : List Int} : ∀ u ∈ l.map (Value.int k), u.oneCell' = true := by
  intro u hu
  obtain ⟨x, _, rfl⟩ := List.mem_map.1 hu
  rfl
theorem Own.empty (w : World) (e : TypeId) : Own (w.alloc (.cells #[] e)) w.heap.size e 1 (some ⟨w.heap.size, 0, none⟩) 0 0 [] :=
  ⟨by simp, .inr ⟨w.heap.size, 0, #[], rfl, Nat.le_refl _, heap_alloc_new w _, Nat.le_refl _, by simp [maxLen], by simp, by simp⟩⟩

set_option maxHeartbeats 400000 in
theorem CloneU_any {w0 w : World} {A : Option Addr} {c : Nat} {l : List Int} (h : Ints w0 A 237 .u32 l) (hl : l.length ≤ 1099511627776) [hx : Ext w0 w] :
    Calls Tryz.prog 181 #[.slice A l.length c] w (RetClone w 237 .u32 l) := by
  have hq := run_eql_nil (P := Tryz.prog) Tryz.underlying156
  have h1 := h.ext hx
  cases A with
  | none =>
    have h0 : l = [] := by
      rcases Nat.eq_zero_or_pos l.length with h0 | h0
      · exact List.eq_nil_of_length_eq_zero h0
      · obtain ⟨b, o, cs, fr, hh, _⟩ := h1 (by simpa using h0)
        cases hh
    subst h0
    go_enter Tryz.func181, Tryz.ntmps181
    go_wp2
    go_ret
    exact ⟨none, 0, rfl, Ints.nil, by simp, by omega, Step.of _ _⟩
  | some ad =>
    go_enter Tryz.func181, Tryz.ntmps181
    go_wp2_with (at_builtin; refine wpList_app _ rfl _ _ 156 rfl w.heap.size 237 (.int .u32 0) 1 4 Tryz.underlying156 Tryz.infoU32 rfl (by omega) (by omega) _ 0 _ [] rfl (Own.empty w _) _ l.length c (l.map (Value.int .u32)) rfl (Arr.ext h1 inferInstance) (by simp) oneCell_ints (by omega) (by simp) ?_; intro A1 c1 w1 hown hg)
    go_ret
    have hcap := hown.cap
    have hxx : Ext w w1 := hg.ext inferInstance (Nat.le_refl _)
    exact ⟨A1, c1, by simp, hown.arr, by omega, by omega, hxx.toStep⟩

/-- A natural number that lies in a slice. -/
def NatV (w : World) (A : Option Addr) (n c : Nat) (z : Int) : Prop := ∃ l : List Int, n = l.length ∧ Ints w A 237 .u32 l ∧ Limbs l ∧ Tight l ∧ val l = z ∧ n ≤ c ∧ c ≤ 9223372036854775807
theorem NatV.ext {w w' : World} {A : Option Addr} {n c : Nat} {z : Int} (h : NatV w A n c z) (hx : Ext w w') : NatV w' A n c z := by
  obtain ⟨l, h1, h2, h3⟩ := h
  exact ⟨l, h1, h2.ext hx, h3⟩
theorem NatV.nil (w : World) : NatV w none 0 0 0 := ⟨[], rfl, Ints.nil, Limbs.nil, Tight.nil, rfl, Nat.le_refl _, by omega⟩
theorem NatV.zero_iff {w : World} {A : Option Addr} {n c : Nat} {z : Int} (h : NatV w A n c z) : n = 0 ↔ z = 0 := by
  obtain ⟨l, rfl, _, h2, h3, h4, _⟩ := h
  have := tight_zero h2 h3
  constructor
  · intro hn
    have hl := List.eq_nil_of_length_eq_zero hn
    subst hl
    simpa [val] using h4.symm
  · rintro rfl
    have := this.1 h4
    subst this; rfl
theorem NatV.nonneg {w : World} {A : Option Addr} {n c : Nat} {z : Int} (h : NatV w A n c z) : 0 ≤ z := by
  obtain ⟨l, rfl, _, h2, h3, h4, _⟩ := h
  rw [← h4]; exact val_nonneg h2
theorem NatV.len {w : World} {A : Option Addr} {n c : Nat} {z : Int} (h : NatV w A n c z) {k : Nat} (hz : z < (4294967296 : Int) ^ k) : n ≤ k := by
  obtain ⟨l, rfl, _, h2, h3, h4, _⟩ := h
  exact length_le_of_val h2 h3 (by rw [h4]; exact hz)
theorem NatV.of_ret {w w' : World} {z : Int} {e : Ending} (h : RetNat w z e w') : ∃ B n d, e = .returned (.slice B n d) ∧ NatV w' B n d z ∧ Step w w' := by
  obtain ⟨B, d, l, rfl, h1, h2, h3, h4, h5, h6, h7⟩ := h
  exact ⟨B, l.length, d, rfl, ⟨l, rfl, h1, h2, h3, h4, h5, h6⟩, h7⟩
theorem IntV.nat {w : World} {neg : Bool} {A : Option Addr} {n c : Nat} {z : Int} (h : IntV w neg A n c z) : NatV w A n c z.natAbs := by
  obtain ⟨l, h1, h2, h3, h4, h5, h6, h7, h8⟩ := h
  exact ⟨l, h1, h6, h2, h3, h4, h7, h8⟩
theorem buildN_any {w0 w : World} {A : Option Addr} {n c : Nat} {z : Int} (neg : Bool) (h : NatV w0 A n c z) [hx : Ext w0 w] :
    Calls Tryz.prog 168 #[.bool neg, .slice A n c] w (RetInt w (sgn neg z)) := by
  obtain ⟨l, rfl, h1, h2, h3, rfl, h5, h6⟩ := h
  exact build_any neg h1 h2 h3 h5 h6
theorem compareN_any {w0 w1 w : World} {A B : Option Addr} {n k c d : Nat} {x y : Int} (ha : NatV w0 A n c x) (hb : NatV w1 B k d y) [hx : Ext w0 w] [hy : Ext w1 w] :
    Calls Tryz.prog 220 #[.slice A n c, .slice B k d] w (RetVal w (.int .i64 (cmpI x y))) := by
  obtain ⟨l, rfl, h1, h2, h3, rfl, h5, h6⟩ := ha
  obtain ⟨m, rfl, g1, g2, g3, rfl, g5, g6⟩ := hb
  exact compareNat_any h1 g1 h2 g2 h3 g3 (by omega) (by omega)
theorem addN_any {w0 w1 w : World} {A B : Option Addr} {n k c d : Nat} {x y : Int} (ha : NatV w0 A n c x) (hb : NatV w1 B k d y) (h1 : n ≤ 1099511627776) (h2 : k ≤ 1099511627776) [hx : Ext w0 w] [hy : Ext w1 w] :
    Calls Tryz.prog 207 #[.slice A n c, .slice B k d] w (RetNat w (x + y)) := by
  obtain ⟨l, rfl, a1, a2, a3, rfl, a5, a6⟩ := ha
  obtain ⟨m, rfl, g1, g2, g3, rfl, g5, g6⟩ := hb
  exact addNat_any a1 g1 a2 g2 h1 h2
theorem subN_any {w0 w1 w : World} {A B : Option Addr} {n k c d : Nat} {x y : Int} (ha : NatV w0 A n c x) (hb : NatV w1 B k d y) (h1 : n ≤ 1099511627776) (h2 : y ≤ x) [hx : Ext w0 w] [hy : Ext w1 w] :
    Calls Tryz.prog 208 #[.slice A n c, .slice B k d] w (RetNat w (x - y)) := by
  obtain ⟨l, rfl, a1, a2, a3, rfl, a5, a6⟩ := ha
  obtain ⟨m, rfl, g1, g2, g3, rfl, g5, g6⟩ := hb
  refine subNat_any a1 g1 a2 g2 h1 ?_ h2
  rcases Nat.lt_or_ge l.length m.length with h | h
  · have := tight_len_lt a2 g2 g3 h; omega
  · exact h
theorem wordN_any {w0 w : World} {A : Option Addr} {n c : Nat} {z : Int} (h : NatV w0 A n c z) (h2 : n ≤ 2) [hx : Ext w0 w] :
    Calls Tryz.prog 171 #[.slice A n c] w (RetSame w (.int .u64 z)) := by
  obtain ⟨l, rfl, a1, a2, a3, rfl, a5, a6⟩ := h
  exact word_any (a1.ext hx) a2 h2
theorem cloneN_any {w0 w : World} {A : Option Addr} {n c : Nat} {z : Int} (h : NatV w0 A n c z) (h2 : n ≤ 1099511627776) [hx : Ext w0 w] :
    Calls Tryz.prog 181 #[.slice A n c] w (RetNat w z) := by
  obtain ⟨l, rfl, a1, a2, a3, rfl, a5, a6⟩ := h
  refine (CloneU_any (c := c) a1 h2).mono ?_
  rintro e w' ⟨B, d, rfl, h1, h3, h4, h5⟩
  exact ⟨B, d, l, rfl, h1, a2, a3, rfl, h3, h4, h5⟩
/-- Quotient and remainder. -/
def RetNat2 (w : World) (q r : Int) (e : Ending) (w' : World) : Prop := ∃ B n d B' n' d', e = .returned (.tuple #[.slice B n d, .slice B' n' d']) ∧ NatV w' B n d q ∧ NatV w' B' n' d' r ∧ Step w w'

set_option maxHeartbeats 400000 in
theorem divNat_small {w0 w1 w : World} {A B : Option Addr} {n k c d : Nat} {x y : Int} (ha : NatV w0 A n c x) (hb : NatV w1 B k d y) (h1 : x < 18446744073709551616) (hy0 : 0 < y) (hy1 : y < 18446744073709551616) [hx : Ext w0 w] [hy : Ext w1 w] :
    Calls Tryz.prog 206 #[.slice A n c, .slice B k d] w (RetNat2 w (x / y) (x % y)) := by
  have hn2 : n ≤ 2 := ha.len (k := 2) (by omega)
  have hk2 : k ≤ 2 := hb.len (k := 2) (by omega)
  have hx0 := ha.nonneg
  by_cases hlt : x < y
  · have hc := cmpI_lt hlt
    have HQ := Lib.hid (show x / y = 0 from Int.ediv_eq_zero_of_lt hx0 hlt)
    have HR := Lib.hid (show x % y = x from Int.emod_eq_of_lt hx0 hlt)
    go_enter Tryz.func206, Tryz.ntmps206
    go_wp2_with fail
    refine (compareN_any ha hb).mono ?_
    rintro e w2 ⟨rfl, hs2⟩
    go_wp2_with fail
    refine (cloneN_any ha (by omega)).mono ?_
    intro e w3 hr
    obtain ⟨B3, n3, d3, rfl, hn3, hs3⟩ := NatV.of_ret hr
    go_wp2
    go_ret2
    exact ⟨_, _, _, _, _, _, rfl, by rw [HQ.out]; exact NatV.nil _, by rw [HR.out]; exact hn3, Step.of _ _⟩
  · have hc : 0 ≤ cmpI x y := by unfold cmpI; split; omega; split <;> decide
    have hq0 : 0 ≤ x / y := Int.ediv_nonneg hx0 (by omega)
    have hq1 : x / y ≤ x := Int.ediv_le_self y hx0
    have hr0 : 0 ≤ x % y := Int.emod_nonneg x (by omega)
    have hr1 : x % y < y := Int.emod_lt_of_pos x hy0
    have hyb : (y == 0) = false := by simp; omega
    go_enter Tryz.func206, Tryz.ntmps206
    go_wp2_with fail
    refine (compareN_any ha hb).mono ?_
    rintro e w2 ⟨rfl, hs2⟩
    go_wp2_with fail
    refine (wordN_any ha hn2).mono ?_
    rintro e w3 ⟨rfl, rfl⟩
    go_wp2_with fail
    refine (wordN_any hb hk2).mono ?_
    rintro e w3 ⟨rfl, rfl⟩
    go_wp2_with fail
    have hyn : ¬ y = 0 := by omega
    have e1 : x.tdiv y = x / y := Int.tdiv_eq_ediv_of_nonneg hx0
    have e2 : x.tmod y = x % y := Int.tmod_eq_emod_of_nonneg hx0
    have e3 : IntKind.u64.wrap (x / y) = x / y := by rw [IntKind.wrap_u64]; omega
    have e4 : IntKind.u64.wrap (x % y) = x % y := by rw [IntKind.wrap_u64]; omega
    go_region_held3 (fun _ => True) (trivial)
      (first
        | (go_at_call_of 169 (Value.int IntKind.u64 (x / y)); refine (fromWord_any (x / y) hq0 (by omega) _).mono ?_; intro e w4 hr; obtain ⟨B4, n4, d4, rfl, hn4, hs4⟩ := NatV.of_ret hr; clear hr)
        | (go_at_call_of 169 (Value.int IntKind.u64 (x % y)); refine (fromWord_any (x % y) hr0 (by omega) _).mono ?_; intro e w5 hr; obtain ⟨B5, n5, d5, rfl, hn5, hs5⟩ := NatV.of_ret hr; clear hr))
    go_wp2
    go_ret2
    exact ⟨_, _, _, _, _, _, rfl, hn4.ext inferInstance, hn5, Step.of _ _⟩

/-- Two integers and a bool are returned. -/
def RetInt2 (w : World) (q r : Int) (b : Bool) (e : Ending) (w' : World) : Prop := ∃ g B n d g' B' n' d', e = .returned (.tuple #[.agg #[.bool g, .slice B n d], .agg #[.bool g', .slice B' n' d'], .bool b]) ∧ IntV w' g B n d q ∧ IntV w' g' B' n' d' r ∧ Step w w'
theorem box4 (w w' : World) (x0 y0 x1 y1 x2 y2 x3 y3 : Value) (T : TypeId) [h : Ext ((((w.alloc (.cells #[x0, y0] T)).alloc (.cells #[x1, y1] T)).alloc (.cells #[x2, y2] T)).alloc (.cells #[x3, y3] T)) w'] :
    (w'.cell? ⟨w.heap.size, 0, none⟩ = some x0 ∧ w'.cell? ⟨w.heap.size, 1, none⟩ = some y0 ∧ w'.cell? ⟨w.heap.size + 1, 0, none⟩ = some x1 ∧ w'.cell? ⟨w.heap.size + 1, 1, none⟩ = some y1) ∧
    (w'.heap[w.heap.size + 1 + 1]? = some (.cells #[x2, y2] T (0, 0)) ∧ w'.cell? ⟨w.heap.size + 1 + 1, 0, none⟩ = some x2 ∧ w'.cell? ⟨w.heap.size + 1 + 1, 1, none⟩ = some y2 ∧ w'.frozen? ⟨w.heap.size + 1 + 1, 0, none⟩ = false ∧ w'.frozen? ⟨w.heap.size + 1 + 1, 1, none⟩ = false ∧ w.heap.size + 1 + 1 < w'.heap.size) ∧
    (w'.heap[w.heap.size + 1 + 1 + 1]? = some (.cells #[x3, y3] T (0, 0)) ∧ w'.cell? ⟨w.heap.size + 1 + 1 + 1, 0, none⟩ = some x3 ∧ w'.cell? ⟨w.heap.size + 1 + 1 + 1, 1, none⟩ = some y3 ∧ w'.frozen? ⟨w.heap.size + 1 + 1 + 1, 0, none⟩ = false ∧ w'.frozen? ⟨w.heap.size + 1 + 1 + 1, 1, none⟩ = false ∧ w.heap.size + 1 + 1 + 1 < w'.heap.size) := by
  have h2 : Ext ((w.alloc (.cells #[x0, y0] T)).alloc (.cells #[x1, y1] T)) w' := Ext.trans inferInstance h
  have h3 : Ext (((w.alloc (.cells #[x0, y0] T)).alloc (.cells #[x1, y1] T)).alloc (.cells #[x2, y2] T)) w' := Ext.trans inferInstance h
  exact ⟨boxes2 w w' x0 y0 x1 y1 T T, box2_2 w w' (.cells #[x0, y0] T) (.cells #[x1, y1] T) x2 y2 T, box2At (((w.alloc (.cells #[x0, y0] T)).alloc (.cells #[x1, y1] T)).alloc (.cells #[x2, y2] T)) w' _ x3 y3 T (by simp)⟩
theorem heap_setCell_far {w : World} {s : Nat} {o : Obj} (h : w.heap[s]? = some o) {p : Addr} (hp : s ≠ p.block) (u : Value) : (w.setCell p u).heap[s]? = some o := (Below.heap_setCell w p u s hp).trans h
theorem IntV.boxed4 {w : World} {g : Bool} {B : Option Addr} {k d : Nat} {z : Int} (hz : IntV w g B k d z) {s s' : Nat} (hss : s ≠ s') {cs cs' : Array Value} {T T' : TypeId} (hT : 237 ≠ T) (hT' : 237 ≠ T') (q : w.heap[s]? = some (.cells cs T (0, 0))) (q' : w.heap[s']? = some (.cells cs' T' (0, 0))) (u v u' v' : Value) :
    IntV ((((w.setCell ⟨s, 0, none⟩ u).setCell ⟨s, 1, none⟩ v).setCell ⟨s', 0, none⟩ u').setCell ⟨s', 1, none⟩ v') g B k d z :=
  (hz.boxed hT q u v).boxed hT' (heap_setCell_far (heap_setCell_far q' (fun h => hss h.symm) _) (fun h => hss h.symm) _) u' v'

theorem div_pos_case (x y : Int) (hx : 0 ≤ x) (hy : y ≠ 0) : sgn (decide (y < 0)) ((x.natAbs : Int) / y.natAbs) = x / y ∧ (x.natAbs : Int) % y.natAbs = x % y := by
  have e1 : (x.natAbs : Int) = x := by omega
  rw [e1]
  rcases (by omega : (y.natAbs : Int) = y ∨ (y.natAbs : Int) = -y) with h | h
  · have : ¬ y < 0 := by omega
    rw [h]; simp [sgn, this]
  · have : y < 0 := by omega
    rw [h]; simp [sgn, this, Int.ediv_neg, Int.emod_neg]
theorem div_neg_exact (x y : Int) (hx : x < 0) (hy : y ≠ 0) (hr : (x.natAbs : Int) % y.natAbs = 0) : sgn (!decide (y < 0)) ((x.natAbs : Int) / y.natAbs) = x / y ∧ (x.natAbs : Int) % y.natAbs = x % y := by
  have e1 : (x.natAbs : Int) = -x := by omega
  have hd : (y.natAbs : Int) ∣ x := by
    have := Int.dvd_of_emod_eq_zero hr
    rw [e1] at this
    exact (Int.dvd_neg).1 this
  rw [hr, e1]
  rcases (by omega : (y.natAbs : Int) = y ∨ (y.natAbs : Int) = -y) with h | h
  · have : ¬ y < 0 := by omega
    rw [h] at hd ⊢; simp [sgn, this, Int.neg_ediv_of_dvd hd, Int.emod_eq_zero_of_dvd hd]
  · have : y < 0 := by omega
    rw [h] at hd ⊢
    have hd' : y ∣ x := (Int.neg_dvd).1 hd
    simp [sgn, this, Int.ediv_neg, Int.neg_ediv_of_dvd hd', Int.emod_eq_zero_of_dvd hd']
theorem div_neg_case (x y : Int) (hx : x < 0) (hy : y ≠ 0) (hr : (x.natAbs : Int) % y.natAbs ≠ 0) : sgn (!decide (y < 0)) ((x.natAbs : Int) / y.natAbs + 1) = x / y ∧ (y.natAbs : Int) - (x.natAbs : Int) % y.natAbs = x % y := by
  have hY : 0 < (y.natAbs : Int) := by omega
  generalize hYY : (y.natAbs : Int) = Y at *
  have e1 : (x.natAbs : Int) = -x := by omega
  rw [e1] at hr ⊢
  have h1 := Int.emod_nonneg (-x) (show Y ≠ 0 by omega)
  have h2 := Int.emod_lt_of_pos (-x) hY
  have h3 : Y * (-x / Y) + -x % Y = -x := Int.mul_ediv_add_emod (-x) Y
  have hq : x / Y = -(-x / Y + 1) ∧ x % Y = Y - -x % Y := by
    have h4 : x = (Y - -x % Y) + Y * (-(-x / Y + 1)) := by
      rw [Int.mul_neg, Int.mul_add, Int.mul_one]; omega
    constructor
    · conv => lhs; rw [h4]
      rw [Int.add_mul_ediv_left _ _ (by omega), Int.ediv_eq_zero_of_lt (by omega) (by omega)]; omega
    · conv => lhs; rw [h4]
      rw [Int.add_mul_emod_self_left, Int.emod_eq_of_lt (by omega) (by omega)]
  rcases (by omega : Y = y ∨ Y = -y) with h | h
  · have : ¬ y < 0 := by omega
    rw [← h]; rw [hq.1, hq.2]; simp [sgn]; omega
  · have hy' : y < 0 := by omega
    have : y = -Y := by omega
    rw [this, Int.ediv_neg, Int.emod_neg, hq.1, hq.2]
    simp [sgn]; omega

/-- What remains behind divNat and the tests: build both results. -/
theorem one_nat (w : World) : NatV (w.alloc (.cells #[.int .u32 1] 237)) (some ⟨w.heap.size, 0, none⟩) 1 1 1 :=
  ⟨[1], rfl, Arr.new w 237 #[.int .u32 1], Limbs.cons (by omega) Limbs.nil, by simp [Tight], by simp [val], Nat.le_refl _, by omega⟩

set_option maxHeartbeats 800000 in
theorem DivMod_small {w0 w1 w : World} {na nb : Bool} {A B : Option Addr} {n k c d : Nat} {x y : Int} (ha : IntV w0 na A n c x) (hb : IntV w1 nb B k d y)
    (h1 : x.natAbs < 18446744073709551616) (hy0 : y ≠ 0) (h2 : y.natAbs < 18446744073709551616) [hx : Ext w0 w] [hy : Ext w1 w] :
    Calls Tryz.prog 182 #[.agg #[.bool na, .slice A n c], .agg #[.bool nb, .slice B k d]] w (RetInt2 w (x / y) (x % y) true) := by
  have hn2 : n ≤ 2 := ha.len (k := 2) (by omega)
  have hk2 : k ≤ 2 := hb.len (k := 2) (by omega)
  have hk0 : ((k : Int) == 0) = false := by simp; exact fun h => hy0 (hb.zero_iff.1 h)
  have hna := ha.neg_eq
  have hnb := hb.neg_eq
  have hdn := divNat_small (w := (((w.alloc (.cells #[.bool na, .slice A n c] 158)).alloc (.cells #[.bool nb, .slice B k d] 158)).alloc (.cells #[.bool false, .slice none 0 0] 158)).alloc (.cells #[.bool false, .slice none 0 0] 158)) ha.nat hb.nat (by omega) (by omega) (by omega)
  have hr0 := Int.emod_nonneg (x.natAbs : Int) (show (y.natAbs : Int) ≠ 0 by omega)
  have hr1 := Int.emod_lt_of_pos (x.natAbs : Int) (show 0 < (y.natAbs : Int) by omega)
  have hq0 : 0 ≤ (x.natAbs : Int) / y.natAbs := Int.ediv_nonneg (by omega) (by omega)
  have hq1 : (x.natAbs : Int) / y.natAbs ≤ x.natAbs := Int.ediv_le_self _ (by omega)
  by_cases hneg : x < 0
  · obtain rfl : na = true := by simp [hna, hneg]
    by_cases hrz : (x.natAbs : Int) % y.natAbs = 0
    · have HE := Lib.hid (div_neg_exact x y hneg hy0 hrz)
      rw [← hnb] at HE
      have HR := Lib.hid hrz
      generalize (x.natAbs : Int) / y.natAbs = q at *
      generalize (x.natAbs : Int) % y.natAbs = r at *
      have HD := Lib.hid hdn
      clear hna hnb hdn hrz
      go_enter Tryz.func182, Tryz.ntmps182
      go_wp2_with fail
      refine (trimV_any hb).mono ?_
      rintro e w' ⟨rfl, rfl⟩
      go_wp2_with fail
      refine (trimV_any ha).mono ?_
      rintro e w' ⟨rfl, rfl⟩
      go_wp2_with fail
      refine HD.out.mono ?_
      rintro e w2 ⟨B2, n2, d2, B3, n3, d3, rfl, hq, hr, hs2⟩
      obtain ⟨⟨c1, c2, c3, c4⟩, -, -⟩ := box4 w w2 (.bool true) (.slice A n c) (.bool nb) (.slice B k d) (.bool false) (.slice none 0 0) (.bool false) (.slice none 0 0) 158
      have hn3 : n3 = 0 := hr.zero_iff.2 HR.out
      subst hn3
      go_wp2_with fail
      refine (buildN_any _ hq).mono ?_
      rintro e w4 ⟨g4, B4, n4, d4, rfl, hz4, hs4⟩
      go_wp2_with fail
      refine (buildN_any _ hr).mono ?_
      rintro e w5 ⟨g5, B5, n5, d5, rfl, hz5, hs5⟩
      obtain ⟨-, ⟨p0, p1, p2, p3, p4, p5⟩, ⟨q0, q1, q2, q3, q4, q5⟩⟩ := box4 w w5 (.bool true) (.slice A n c) (.bool nb) (.slice B k d) (.bool false) (.slice none 0 0) (.bool false) (.slice none 0 0) 158
      have P0 := Lib.hid p0
      have Q0 := Lib.hid q0
      clear p0 q0
      go_wp2
      refine bodyPost_ret (v := .tuple #[.agg #[.bool g4, .slice B4 n4 d4], .agg #[.bool g5, .slice B5 n5 d5], .bool true]) (by simp [results, Tryz.results182, go_sem, p1, p2, q1, q2]) rfl ⟨_, _, _, _, _, _, _, _, rfl, ?_, ?_, Step.of _ _⟩
      · rw [← HE.out.1]
        exact (hz4.ext hs5.ext).boxed4 (by omega) (by decide) (by decide) P0.out Q0.out _ _ _ _
      · rw [← HE.out.2]
        exact hz5.boxed4 (by omega) (by decide) (by decide) P0.out Q0.out _ _ _ _
    · have HE := Lib.hid (div_neg_case x y hneg hy0 hrz)
      rw [← hnb] at HE
      have HR := Lib.hid hrz
      generalize (x.natAbs : Int) / y.natAbs = q at *
      generalize (x.natAbs : Int) % y.natAbs = r at *
      have HD := Lib.hid hdn
      clear hna hnb hdn hrz
      go_enter Tryz.func182, Tryz.ntmps182
      go_wp2_with fail
      refine (trimV_any hb).mono ?_
      rintro e w' ⟨rfl, rfl⟩
      go_wp2_with fail
      refine (trimV_any ha).mono ?_
      rintro e w' ⟨rfl, rfl⟩
      go_wp2_with fail
      refine HD.out.mono ?_
      rintro e w2 ⟨B2, n2, d2, B3, n3, d3, rfl, hq, hr, hs2⟩
      obtain ⟨⟨c1, c2, c3, c4⟩, -, -⟩ := box4 w w2 (.bool true) (.slice A n c) (.bool nb) (.slice B k d) (.bool false) (.slice none 0 0) (.bool false) (.slice none 0 0) 158
      have hn3 : 0 < n3 := Nat.pos_of_ne_zero fun h => HR.out (hr.zero_iff.1 h)
      have hn2' : n2 ≤ 2 := hq.len (k := 2) (by omega)
      have hn3b : decide ((0 : Int) < (n3 : Int)) = true := by simpa using hn3
      go_wp2_with fail
      refine (addN_any hq (one_nat w2) (by omega) (by omega)).mono ?_
      intro e w6 hr6
      obtain ⟨B6, n6, d6, rfl, hn6, hs6⟩ := NatV.of_ret hr6
      clear hr6
      go_wp2_with fail
      refine (subN_any hb.nat hr (by omega) (by omega)).mono ?_
      intro e w7 hr7
      obtain ⟨B7, n7, d7, rfl, hn7, hs7⟩ := NatV.of_ret hr7
      clear hr7
      go_wp2_with fail
      refine (buildN_any _ hn6).mono ?_
      rintro e w4 ⟨g4, B4, n4, d4, rfl, hz4, hs4⟩
      go_wp2_with fail
      refine (buildN_any _ hn7).mono ?_
      rintro e w5 ⟨g5, B5, n5, d5, rfl, hz5, hs5⟩
      obtain ⟨-, ⟨p0, p1, p2, p3, p4, p5⟩, ⟨q0, q1, q2, q3, q4, q5⟩⟩ := box4 w w5 (.bool true) (.slice A n c) (.bool nb) (.slice B k d) (.bool false) (.slice none 0 0) (.bool false) (.slice none 0 0) 158
      have P0 := Lib.hid p0
      have Q0 := Lib.hid q0
      clear p0 q0
      go_wp2
      refine bodyPost_ret (v := .tuple #[.agg #[.bool g4, .slice B4 n4 d4], .agg #[.bool g5, .slice B5 n5 d5], .bool true]) (by simp [results, Tryz.results182, go_sem, p1, p2, q1, q2]) rfl ⟨_, _, _, _, _, _, _, _, rfl, ?_, ?_, Step.of _ _⟩
      · rw [← HE.out.1]
        exact (hz4.ext hs5.ext).boxed4 (by omega) (by decide) (by decide) P0.out Q0.out _ _ _ _
      · rw [← HE.out.2]
        exact hz5.boxed4 (by omega) (by decide) (by decide) P0.out Q0.out _ _ _ _
  · obtain rfl : na = false := by simp [hna]; omega
    · have HE := Lib.hid (div_pos_case x y (by omega) hy0)
      rw [← hnb] at HE
      generalize (x.natAbs : Int) / y.natAbs = q at *
      generalize (x.natAbs : Int) % y.natAbs = r at *
      have HD := Lib.hid hdn
      clear hna hnb hdn
      go_enter Tryz.func182, Tryz.ntmps182
      go_wp2_with fail
      refine (trimV_any hb).mono ?_
      rintro e w' ⟨rfl, rfl⟩
      go_wp2_with fail
      refine (trimV_any ha).mono ?_
      rintro e w' ⟨rfl, rfl⟩
      go_wp2_with fail
      refine HD.out.mono ?_
      rintro e w2 ⟨B2, n2, d2, B3, n3, d3, rfl, hq, hr, hs2⟩
      obtain ⟨⟨c1, c2, c3, c4⟩, -, -⟩ := box4 w w2 (.bool false) (.slice A n c) (.bool nb) (.slice B k d) (.bool false) (.slice none 0 0) (.bool false) (.slice none 0 0) 158
      go_wp2_with fail
      refine (buildN_any _ hq).mono ?_
      rintro e w4 ⟨g4, B4, n4, d4, rfl, hz4, hs4⟩
      go_wp2_with fail
      refine (buildN_any _ hr).mono ?_
      rintro e w5 ⟨g5, B5, n5, d5, rfl, hz5, hs5⟩
      obtain ⟨-, ⟨p0, p1, p2, p3, p4, p5⟩, ⟨q0, q1, q2, q3, q4, q5⟩⟩ := box4 w w5 (.bool false) (.slice A n c) (.bool nb) (.slice B k d) (.bool false) (.slice none 0 0) (.bool false) (.slice none 0 0) 158
      have P0 := Lib.hid p0
      have Q0 := Lib.hid q0
      clear p0 q0
      go_wp2
      refine bodyPost_ret (v := .tuple #[.agg #[.bool g4, .slice B4 n4 d4], .agg #[.bool g5, .slice B5 n5 d5], .bool true]) (by simp [results, Tryz.results182, go_sem, p1, p2, q1, q2]) rfl ⟨_, _, _, _, _, _, _, _, rfl, ?_, ?_, Step.of _ _⟩
      · rw [← HE.out.1]
        exact (hz4.ext hs5.ext).boxed4 (by omega) (by decide) (by decide) P0.out Q0.out _ _ _ _
      · rw [← HE.out.2]
        exact hz5.boxed4 (by omega) (by decide) (by decide) P0.out Q0.out _ _ _ _
end Go.Proofs.YtaaldapmkhamlaaGreat

/-
  The law EnumerateLimit returns true at every number.
-/
import Derived.Test.YtaaldapmkhamlaaGreatAwk11
namespace Go.Proofs.YtaaldapmkhamlaaGreat
open Go.RowKit
theorem mat11 (w : World) (a : Int) : Mat64 ((w.alloc (.cells #[.int .i64 a] 2)).alloc (.cells #[.slice (some ⟨w.heap.size, 0, none⟩) 1 1] 22)) (some ⟨w.heap.size + 1, 0, none⟩) [[a]] := by
  have h1 : Ints (w.alloc (.cells #[.int .i64 a] 2)) (some ⟨w.heap.size, 0, none⟩) 2 .i64 [a] := Arr.new w 2 #[.int .i64 a]
  have h2 := Arr.new (w.alloc (.cells #[.int .i64 a] 2)) 22 #[.slice (some ⟨w.heap.size, 0, none⟩) 1 1]
  rw [World.size_alloc] at h2
  refine ⟨_, rfl, h2, fun i r hr => ?_⟩
  match i with
  | 0 => obtain rfl : [a] = r := by simpa using hr
         exact ⟨_, 1, rfl, h1.ext inferInstance, by simp, by omega⟩
  | i + 1 => simp at hr
theorem Vectors_m1 {w0 w : World} {A : Option Addr} (k : Nat) (h1 : 1 ≤ k) (h2 : k ≤ 4096) (h : Mat64 w0 A m1) [hx : Ext w0 w] :
    Calls Tryz.prog 8 #[.slice A 1 1, .int .i64 ((k : Int) * k), .int .i64 20000] w fun e w' => ∃ B c t, e = .returned (.tuple #[.slice B k c, .int .i64 t, .int .i64 0]) ∧ Step w w' := by
  have hs := steps_m1 k (by omega)
  have hl : lastOf [2 * (k : Int) + 1] = 2 * (k : Int) + 1 := rfl
  refine (Vectors_ok (c := 1) h (by decide) (by decide) (enum_m1 k h1 (by omega) false) hs (by simp) (by simp) (by rw [hl]; omega) (by simp; omega) (by rw [hl]; omega)).mono ?_
  rintro e w' ⟨B, c, L, he, hM, _, _, hp, _, hst⟩
  have hlen := hp.length_eq
  rw [coll_m1, mult_all] at hlen
  simp at hlen
  rw [hlen] at he
  exact ⟨B, c, _, he, hst⟩
theorem Vectors_m1_big {w0 w : World} {A : Option Addr} (k : Nat) (h1 : 4097 ≤ k) (h2 : k ≤ 9999) (h : Mat64 w0 A m1) [hx : Ext w0 w] :
    Calls Tryz.prog 8 #[.slice A 1 1, .int .i64 ((k : Int) * k), .int .i64 20000] w (RetVal w (.tuple #[.slice none 0 0, .int .i64 0, .int .i64 7])) := by
  have hl : lastOf [2 * (k : Int) + 1] = 2 * (k : Int) + 1 := rfl
  have hl1 : m1.length = 1 := rfl
  have := Vectors_big (w := w) (c := 1) h (by omega) (by omega) (by omega) (fun _ => form_m1) (steps_m1 k h2) (by simp) (by simp) (by rw [hl]; omega) (by rw [hl]; omega) (by rw [hl]; omega)
  exact this
theorem Count_m1 {w0 w : World} {A : Option Addr} (k : Nat) (h2 : k ≤ 9999) (h : Mat64 w0 A m1) [hx : Ext w0 w] :
    Calls Tryz.prog 9 #[.slice A 1 1, .int .i64 ((k : Int) * k), .int .i64 20000] w (RetVal w (.tuple #[.int .i64 k, .int .i64 0])) := by
  have hl : lastOf [2 * (k : Int) + 1] = 2 * (k : Int) + 1 := rfl
  have hl1 : m1.length = 1 := rfl
  have := Count_ok (w := w) (c := 1) h (by omega) (by omega) (by omega) (fun _ => form_m1) (steps_m1 k h2) (by simp) (by simp) (by rw [hl]; omega) (by rw [hl]; omega)
  rwa [hl, show (2 * (k : Int) + 1 - 1) / 2 = k by omega] at this
theorem Shell_m1 {w0 w : World} {A : Option Addr} (k : Nat) (h1 : 1 ≤ k) (h2 : k ≤ 9999) (h : Mat64 w0 A m1) [hx : Ext w0 w] :
    Calls Tryz.prog 10 #[.slice A 1 1, .int .i64 ((k : Int) * k), .int .i64 20000] w fun e w' => ∃ B c, e = .returned (.tuple #[.slice B 1 c, .int .i64 0]) ∧ Mat64 w' B [[(k : Int)]] ∧ Step w w' := by
  have hc : collL m1 ((k : Int) * k) true = [[(k : Int)]] := by rw [coll_m1, mult_exact k h1]
  refine (Shell_ok (c := 1) h (by decide) (by decide) (enum_m1 k h1 h2 true) (steps_m1 k h2) (by rw [hc]; simp)).mono ?_
  rintro e w' ⟨B, c, L, he, hM, _, _, hp, _, hst⟩
  rw [hc, List.map_cons, List.map_nil, canon_pos _ (by omega)] at hp
  obtain rfl := List.perm_singleton.1 hp
  exact ⟨B, c, he, hM, hst⟩
set_option maxHeartbeats 2000000 in
theorem EnumerateLimit_any {w : World} (u : Int) (h0 : 0 ≤ u) (h1 : u ≤ 255) : Calls Tryz.prog 3 #[.int .u8 u] w (RetVal w (.bool true)) := by
  obtain ⟨k, hk⟩ : ∃ k : Nat, 4095 + u % 3 = (k : Int) := ⟨(4095 + u % 3).toNat, by omega⟩
  have k1 : 4095 ≤ k := by omega
  have k2 : k ≤ 4097 := by omega
  have p1 : (k : Int) * k ≤ 4097 * 4097 := Int.mul_le_mul (by omega) (by omega) (by omega) (by omega)
  have p0 : 0 ≤ (k : Int) * k := Int.mul_nonneg (by omega) (by omega)
  have hC := fun (W0 W : World) A (hM : Mat64 W0 A m1) (hx : Ext W0 W) => Count_m1 (w := W) k (by omega) hM
  have hS := fun (W0 W : World) A (hM : Mat64 W0 A m1) (hx : Ext W0 W) => Shell_m1 (w := W) k (by omega) (by omega) hM
  have HC := Lib.hid hC
  have HS := Lib.hid hS
  have hM0 := Lib.hid (mat11 w 1)
  by_cases hb : k ≤ 4096
  · have hV := fun (W0 W : World) A (hM : Mat64 W0 A m1) (hx : Ext W0 W) => Vectors_m1 (w := W) k (by omega) hb hM
    have HV := Lib.hid hV
    obtain ⟨kk, hkk⟩ : ∃ kk, (k : Int) * k = kk := ⟨_, rfl⟩
    rw [hkk] at HC HS HV p0 p1
    have hd : decide (4096 < (k : Int)) = false := by simp; omega
    clear hC hS hV
    go_enter Tryz.func3, Tryz.ntmps3
    go_wp2_with (first
      | (go_at_call 8; refine (HV.out _ _ _ hM0.out inferInstance).mono ?_; rintro e w1 ⟨B1, c1, t1, rfl, hs1⟩)
      | (go_at_call 9; refine (HC.out _ _ _ hM0.out inferInstance).mono ?_; rintro e w2 ⟨rfl, hs2⟩)
      | (go_at_call 10; refine (HS.out _ _ _ hM0.out inferInstance).mono ?_; rintro e w3 ⟨B3, c3, rfl, hM3, hs3⟩; obtain ⟨b, o, X, cx, rfl, g1, g2, -, -, -⟩ := hM3.at_ (i := 0) (r := [(k : Int)]) rfl; obtain ⟨b2, o2, y, rfl, hy, g3, -⟩ := g2.at0 (by simp); obtain rfl : (k : Int) = y := (by simpa using hy); clear hy g2 hM3; simp only [Nat.add_zero, List.length_cons, List.length_nil, Nat.zero_add] at g1)
      | (go_at_call 11; refine awake11_any.mono ?_; rintro e w4 ⟨rfl, hs4⟩))
    go_ret
    exact ⟨rfl, Step.of _ _⟩
  · have hV := fun (W0 W : World) A (hM : Mat64 W0 A m1) (hx : Ext W0 W) => Vectors_m1_big (w := W) k (by omega) (by omega) hM
    have HV := Lib.hid hV
    obtain ⟨kk, hkk⟩ : ∃ kk, (k : Int) * k = kk := ⟨_, rfl⟩
    rw [hkk] at HC HS HV p0 p1
    have hd : decide (4096 < (k : Int)) = true := by simp; omega
    clear hC hS hV
    go_enter Tryz.func3, Tryz.ntmps3
    go_wp2_with (first
      | (go_at_call 8; refine (HV.out _ _ _ hM0.out inferInstance).mono ?_; rintro e w1 ⟨rfl, hs1⟩)
      | (go_at_call 9; refine (HC.out _ _ _ hM0.out inferInstance).mono ?_; rintro e w2 ⟨rfl, hs2⟩)
      | (go_at_call 10; refine (HS.out _ _ _ hM0.out inferInstance).mono ?_; rintro e w3 ⟨B3, c3, rfl, hM3, hs3⟩; obtain ⟨b, o, X, cx, rfl, g1, g2, -, -, -⟩ := hM3.at_ (i := 0) (r := [(k : Int)]) rfl; obtain ⟨b2, o2, y, rfl, hy, g3, -⟩ := g2.at0 (by simp); obtain rfl : (k : Int) = y := (by simpa using hy); clear hy g2 hM3; simp only [Nat.add_zero, List.length_cons, List.length_nil, Nat.zero_add] at g1)
      | (go_at_call 11; refine awake11_any.mono ?_; rintro e w4 ⟨rfl, hs4⟩))
    go_ret
    exact ⟨rfl, Step.of _ _⟩
end Go.Proofs.YtaaldapmkhamlaaGreat

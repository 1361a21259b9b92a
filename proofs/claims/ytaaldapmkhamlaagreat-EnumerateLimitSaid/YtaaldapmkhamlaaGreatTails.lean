/-
  The contract of tails of the package schur, inside the loop that ranges over it.
-/
import Derived.Test.YtaaldapmkhamlaaGreatVisit
import Derived.Stop.RegionWithIn
namespace Go.Proofs.YtaaldapmkhamlaaGreat
open Go.RowKit Go.Shelf
attribute [local go_sem] Oper.semAt_some
/-- What ranging over the tails yields. -/
def tailsY (D : List Int) (L : List (List Int)) (n : Nat) (bound : Int) : List (Int × Int) :=
  if n = 1 then [(1, 2 * (isq (bound / vD D 1).toNat : Nat) + 1)] else visitY D L n (n - 1) (vD D n * bound) []
theorem KeepW.drew {lo hi : Nat} {a b : World} (h : KeepW lo hi a b) : KeepW lo hi a b.drew := ⟨h.block, h.size⟩
theorem bool_ret {e : Ending} {A B : Prop} (h : (e = .returned (.bool true) ∧ A) ∨ (e = .returned (.bool false) ∧ B)) : ∃ b, e = .returned (.bool b) ∧ Hid (A ∨ B) := by
  rcases h with ⟨h, a⟩ | ⟨h, b⟩
  · exact ⟨_, h, Lib.hid (.inl a)⟩
  · exact ⟨_, h, Lib.hid (.inr b)⟩
theorem tails_one {w wN : World} {bound : Int} {D : List Int} {L : List (List Int)} {mA lA : Option Addr} {mc lc : Nat} (hV : WalkV w wN bound D L 1 mA lA mc lc) (hdl : D.length = 2) (hd1 : 1 ≤ vD D 1) (hd2 : vD D 1 < 65536) (hb0 : 0 ≤ bound) (hb1 : bound ≤ 4611686018427387904) (l : Nat) (J Jx : List (Int × Int) → World → Prop)
    (hJd : ∀ pre W, J pre W → J pre W.drew)
    (hY : ∀ m pre x W, J pre W → ValidY 1 x → YieldAt Fence.wide m Tryz.prog l #[.int .i64 x.1, .int .i64 x.2] W fun e W' =>
      (e = .returned (.bool true) ∧ J (pre ++ [x]) W' ∧ KeepW w.heap.size wN.heap.size W W') ∨ (e = .returned (.bool false) ∧ Jx (pre ++ [x]) W'))
    (m : Nat) (W : World) (hK : KeepW (w.heap.size + 1) wN.heap.size wN W) (hJ : J [] W) :
    CallsIn Fence.wide m Tryz.prog 47 #[.pointer (some ⟨w.heap.size + 1, 0, none⟩), .func (.yield l) #[] #[]] W fun e W' => (∃ v, e = .returned v) ∧ (J (tailsY D L 1 bound) W' ∨ ∃ q, q <+: tailsY D L 1 bound ∧ Jx q W') := by
  have hdd : ∀ k : Nat, (Fence.wide.depth.isSome = true → 1 ≤ k) := fun k h => by cases h
  obtain ⟨s0, s1, s2, s3, s4⟩ := hV.read hK
  rw [hdl] at s1
  obtain ⟨bm, om, rfl, M1⟩ := hV.minor (k := 1) (by omega)
  obtain ⟨m1, m2⟩ := M1 W hK
  obtain ⟨d, hd⟩ : ∃ d, d = vD D 1 := ⟨_, rfl⟩
  rw [← hd] at m1 hd1 hd2
  obtain ⟨q, hq⟩ : ∃ q, q = (bound / d).toNat := ⟨_, rfl⟩
  have hqe : bound / d = (q : Int) := by
    have := Int.ediv_nonneg hb0 (show 0 ≤ d by omega)
    omega
  have hq1 : q < 9223372036854775808 := by
    have : bound / d ≤ bound := Int.ediv_le_self _ hb0
    omega
  have hrt : isq q < 4294967296 := by
    have h1 := (isq_spec q).1
    rcases Nat.lt_or_ge (isq q) 4294967296 with h | h
    · exact h
    · have := Nat.mul_le_mul h h; omega
  have HT : Hid (tailsY D L 1 bound = [(1, 2 * (isq q : Int) + 1)]) := Lib.hid (by unfold tailsY; rw [if_pos rfl, ← hd, ← hq])
  obtain ⟨fn, tmps, assign, body, hy, hRd⟩ := hY (m - 1) [] (1, 2 * (isq q : Int) + 1) W.drew (hJd _ _ hJ) ⟨by simp, by simp, by simp only; omega, by simp only; omega⟩
  dsimp only at hy hRd
  clear M1 hd hq hY
  refine callsIn_of_wp Tryz.func47 rfl trivial ?_ rfl
  simp only [Tryz.ntmps47, List.size_toArray, List.length_cons, List.length_nil, Nat.reduceAdd, Nat.reduceSub, Array.replicate_succ, Array.replicate_zero, List.push_toArray, List.append_toArray, List.nil_append, List.cons_append]
  have hw1 : IntKind.i64.wrap (2 * (isq q : Int)) = 2 * (isq q : Int) := IntWalk.i64_in _ (by omega)
  have hw2 : IntKind.i64.wrap (2 * (isq q : Int) + 1) = 2 * (isq q : Int) + 1 := IntWalk.i64_in _ (by omega)
  gi_wp2_with fail
  gi_region_with (first
    | (refine ⟨trivial, hdd _, ?_⟩; gi_at_call 85; refine (callsIn_wide.2 (schur_root_any (a := q) (by omega))).mono ?_; rintro e w' ⟨rfl, rfl⟩)
    | ((try refine ⟨hdd _, ?_⟩); refine hRd.mono ?_; clear hRd; rintro e W1 h0; obtain ⟨bb, rfl, hh⟩ := bool_ret h0; clear h0))
  all_goals
    gi_wp2
    refine bodyPost_ret (v := .tuple #[]) (by simp [results, Tryz.results47]) rfl ?_
    refine ⟨⟨_, rfl⟩, ?_⟩
    rw [HT.out]
    rcases hh.out with ⟨hJ1, -⟩ | hx1
    · exact .inl hJ1
    · exact .inr ⟨_, List.prefix_rfl, hx1⟩

theorem tails_many {w wN : World} {bound : Int} {D : List Int} {L : List (List Int)} {n : Nat} {mA lA : Option Addr} {mc lc : Nat} (hV : WalkV w wN bound D L n mA lA mc lc) (hN : NumOK D L n bound) (hn2 : 2 ≤ n) (l : Nat) (J Jx : List (Int × Int) → World → Prop)
    (hJd : ∀ pre W, J pre W → J pre W.drew)
    (hJs : ∀ pre W i v, J pre W → J pre (W.setCell ⟨w.heap.size, i, none⟩ (.int .i64 v)))
    (hY : ∀ m pre x W, J pre W → ValidY n x → YieldAt Fence.wide m Tryz.prog l #[.int .i64 x.1, .int .i64 x.2] W fun e W' =>
      (e = .returned (.bool true) ∧ J (pre ++ [x]) W' ∧ KeepW w.heap.size wN.heap.size W W') ∨ (e = .returned (.bool false) ∧ Jx (pre ++ [x]) W'))
    (m : Nat) (W : World) (hK : KeepW w.heap.size wN.heap.size wN W) (hJ : J [] W) :
    CallsIn Fence.wide m Tryz.prog 47 #[.pointer (some ⟨w.heap.size + 1, 0, none⟩), .func (.yield l) #[] #[]] W fun e W' => (∃ v, e = .returned v) ∧ (J (tailsY D L n bound) W' ∨ ∃ q, q <+: tailsY D L n bound ∧ Jx q W') := by
  have hdd : ∀ k : Nat, (Fence.wide.depth.isSome = true → 1 ≤ k) := fun k h => by cases h
  have hK' := hK.mono (Nat.le_succ _)
  obtain ⟨s0, s1, s2, s3, s4⟩ := hV.read hK'
  have hdl := hN.dl
  have hn8 := hN.n8
  rw [hdl] at s1
  obtain ⟨bm, om, rfl, M1⟩ := hV.minor (k := n) (by omega)
  obtain ⟨m1, m2⟩ := M1 W hK'
  have hL : LevOK D n bound (n - 1) (vD D n * bound) [] := by
    have e : n - 1 + 1 = n := by omega
    have hd := hN.d1 n (Nat.le_refl _)
    refine ⟨by omega, Int.mul_nonneg (by omega) hN.b0, by rw [e]; exact Int.le_refl _, by simp, by simp [absSum]⟩
  have hX : XRow W w.heap.size n (n - 1) [] := by
    refine ⟨List.replicate n 0, (hK.block _ (Nat.le_refl _) (by have := lt_of_heap hV.st; omega)).trans hV.xs, by simp, by rw [List.drop_eq_nil_of_le (by simp; omega)]⟩
  have hv := visit_in hV hN l J Jx hJs hY (n - 1) (vD D n * bound) [] (m - 1) [] W.drew hL (hX.keep rfl) hK'.drew (hJd _ _ hJ)
  have HT : Hid (tailsY D L n bound = visitY D L n (n - 1) (vD D n * bound) []) := Lib.hid (by unfold tailsY; rw [if_neg (by omega)])
  rw [show ((n - 1 : Nat) : Int) = (n : Int) - 1 by omega] at hv
  have hne : ((n : Int) == 1) = false := by simp; omega
  have hd1 := hN.d1 n (Nat.le_refl _)
  have hd2 := hN.d2 n (Nat.le_refl _)
  have hb0 := hN.b0
  have hb1 := hN.b1
  obtain ⟨d, hd⟩ : ∃ d, d = vD D n := ⟨_, rfl⟩
  rw [← hd] at m1 hd1 hd2 hv
  have hm := mul_abs_le (a := d) (b := bound) (A := 65536) (B := 1073741824) (by omega) (by omega) (by omega) (by omega)
  have HC := Lib.hid hv
  have HD := Lib.hid hd
  have hw1 : IntKind.i64.wrap (d * bound) = d * bound := IntWalk.i64_in _ (by omega)
  have hw2 : IntKind.i64.wrap ((n : Int) - 1) = (n : Int) - 1 := IntWalk.i64_in _ (by omega)
  clear M1 hv hd hm hY hL hX hdl
  refine callsIn_of_wp Tryz.func47 rfl trivial ?_ rfl
  simp only [Tryz.ntmps47, List.size_toArray, List.length_cons, List.length_nil, Nat.reduceAdd, Nat.reduceSub, Array.replicate_succ, Array.replicate_zero, List.push_toArray, List.append_toArray, List.nil_append, List.cons_append]
  gi_wp2_with fail
  gi_region_with (refine ⟨trivial, hdd _, ?_⟩; gi_at_call 86; refine HC.out.mono ?_; clear HC; rintro e W1 h0; obtain ⟨bb, rfl, hh⟩ := bool_ret h0; clear h0)
  all_goals
    gi_wp2
    go_end0
    refine ⟨⟨_, rfl⟩, ?_⟩
    rw [HT.out, ← HD.out]
    rcases hh.out with ⟨hJ1, -⟩ | ⟨q, hq, hx1⟩
    · exact .inl hJ1
    · exact .inr ⟨q, hq, hx1⟩
end Go.Proofs.YtaaldapmkhamlaaGreat

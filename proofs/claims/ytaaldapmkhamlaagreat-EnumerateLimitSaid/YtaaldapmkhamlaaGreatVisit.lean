/-
  The contract of visit of the package schur, inside the loop that ranges over it.
-/
import Derived.Test.YtaaldapmkhamlaaGreatVnum
import Derived.RangeFuncNested
import Derived.RangeFuncBound
import Derived.RangeFuncCalls
import Derived.RangeFuncLeaves
import Derived.Shelf.Abstract
import Derived.OwnWalkIn
import Derived.TacticsInMore
import Derived.LoopNIn
import Derived.LoopIn
namespace Go.Proofs.YtaaldapmkhamlaaGreat
open Go.RowKit Go.Shelf
attribute [local go_sem] Oper.semAt_some
/-- The blocks from lo to hi lie in w' as they lay in w. -/
structure KeepW (lo hi : Nat) (w w' : World) : Prop where
  block : ∀ b, lo ≤ b → b < hi → w'.heap[b]? = w.heap[b]?
  size : w.heap.size ≤ w'.heap.size
theorem KeepW.refl (lo hi : Nat) (w : World) : KeepW lo hi w w := ⟨fun _ _ _ => rfl, Nat.le_refl _⟩
theorem KeepW.trans {lo hi : Nat} {a b c : World} (h : KeepW lo hi a b) (h' : KeepW lo hi b c) : KeepW lo hi a c := ⟨fun i h1 h2 => (h'.block i h1 h2).trans (h.block i h1 h2), Nat.le_trans h.size h'.size⟩
theorem KeepW.mono {lo lo' hi : Nat} {a b : World} (h : KeepW lo hi a b) (hl : lo ≤ lo') : KeepW lo' hi a b := ⟨fun i h1 h2 => h.block i (by omega) h2, h.size⟩
theorem KeepW.set {lo hi : Nat} {a b : World} (h : KeepW lo hi a b) {p : Addr} (hp : p.block < lo) (u : Value) : KeepW lo hi a (b.setCell p u) :=
  ⟨fun i h1 h2 => (Below.heap_setCell b p u i (by omega)).trans (h.block i h1 h2), by rw [size_setCell]; exact h.size⟩
theorem KeepW.cell {lo hi : Nat} {a b : World} (h : KeepW lo hi a b) {p o : Nat} (h1 : lo ≤ p) (h2 : p < hi) : b.cell? ⟨p, o, none⟩ = a.cell? ⟨p, o, none⟩ := World.cell?_of_block (h.block p h1 h2)
/-- The coordinates in memory: they end with the tail. -/
def XRow (w : World) (sz n k : Nat) (tail : List Int) : Prop := ∃ xs, Row w sz 2 .i64 xs ∧ xs.length = n ∧ xs.drop (k + 1) = tail
/-- What the walk says at the end of a visit. -/
def VisitPost (w wN : World) (n k : Nat) (tail : List Int) (ys : List (Int × Int)) (J Jx : List (Int × Int) → World → Prop) (pre : List (Int × Int)) (e : Ending) (W' : World) : Prop :=
  (e = .returned (.bool true) ∧ J (pre ++ ys) W' ∧ XRow W' w.heap.size n k tail ∧ KeepW (w.heap.size + 1) wN.heap.size wN W') ∨ (e = .returned (.bool false) ∧ ∃ q, q <+: ys ∧ Jx (pre ++ q) W')
/-- What may be yielded. -/
def ValidY (n : Nat) (x : Int × Int) : Prop := 1 ≤ x.1 ∧ x.1 ≤ n ∧ 0 ≤ x.2 ∧ x.2 ≤ 1099511627776
/-- What the walk's memory gives, in every world in which it is kept. -/
theorem WalkV.read {w wN W : World} {bound : Int} {D : List Int} {L : List (List Int)} {n : Nat} {mA lA : Option Addr} {mc lc : Nat} (h : WalkV w wN bound D L n mA lA mc lc) (hk : KeepW (w.heap.size + 1) wN.heap.size wN W) :
    W.cell? ⟨w.heap.size + 1, 0, none⟩ = some (.int .i64 bound) ∧ W.cell? ⟨w.heap.size + 1, 1, none⟩ = some (.slice mA D.length mc) ∧ W.cell? ⟨w.heap.size + 1, 2, none⟩ = some (.slice lA L.length lc) ∧ W.cell? ⟨w.heap.size + 1, 3, none⟩ = some (.slice (some ⟨w.heap.size, 0, none⟩) n n) ∧ w.heap.size + 1 < W.heap.size := by
  have h1 := (hk.block (w.heap.size + 1) (Nat.le_refl _) (lt_of_heap h.st)).trans h.st
  obtain ⟨a, b, c, d, -, e⟩ := box_cells4 h1
  exact ⟨a, b, c, d, e⟩
theorem WalkV.minor {w wN : World} {bound : Int} {D : List Int} {L : List (List Int)} {n : Nat} {mA lA : Option Addr} {mc lc : Nat} (h : WalkV w wN bound D L n mA lA mc lc) {k : Nat} (hk : k < D.length) :
    ∃ b o, mA = some ⟨b, o, none⟩ ∧ ∀ W, KeepW (w.heap.size + 1) wN.heap.size wN W → W.cell? ⟨b, o + k, none⟩ = some (.int .i64 (vD D k)) ∧ b < W.heap.size := by
  have hd : D[k]? = some (vD D k) := by simp [vD, hk]
  obtain ⟨b, o, h1, h2, h3, h4⟩ := h.mi.at_ (i := k) (u := .int .i64 (vD D k)) (by rw [List.getElem?_map, hd]; rfl)
  exact ⟨b, o, h1, fun W hW => ⟨(hW.cell (by omega) h4).trans h2, Nat.lt_of_lt_of_le h4 hW.size⟩⟩
theorem WalkV.lam {w wN : World} {bound : Int} {D : List Int} {L : List (List Int)} {n : Nat} {mA lA : Option Addr} {mc lc : Nat} (h : WalkV w wN bound D L n mA lA mc lc) {k : Nat} (hk : k < L.length) :
    ∃ b o B c, lA = some ⟨b, o, none⟩ ∧ (L.getD k []).length ≤ c ∧ c ≤ 9223372036854775807 ∧ (∀ W, KeepW (w.heap.size + 1) wN.heap.size wN W → W.cell? ⟨b, o + k, none⟩ = some (.slice B (L.getD k []).length c) ∧ b < W.heap.size) ∧
      ∀ i x, (L.getD k [])[i]? = some x → ∃ b1 o1, B = some ⟨b1, o1, none⟩ ∧ ∀ W, KeepW (w.heap.size + 1) wN.heap.size wN W → W.cell? ⟨b1, o1 + i, none⟩ = some (.int .i64 x) ∧ b1 < W.heap.size := by
  obtain ⟨vs, h1, h2, h3⟩ := h.la
  have hr : L[k]? = some (L.getD k []) := by simp [hk]
  obtain ⟨B, c, e1, e2, e3, e4⟩ := h3 k _ hr
  obtain ⟨b, o, f1, f2, f3, f4⟩ := h2.at_ e1
  refine ⟨b, o, B, c, f1, e3, e4, fun W hW => ⟨(hW.cell (by omega) f4).trans f2, Nat.lt_of_lt_of_le f4 hW.size⟩, fun i x hx => ?_⟩
  obtain ⟨b1, o1, g1, g2, g3, g4⟩ := e2.at_ (i := i) (u := .int .i64 x) (by rw [List.getElem?_map, hx]; rfl)
  exact ⟨b1, o1, g1, fun W hW => ⟨(hW.cell (by omega) g4).trans g2, Nat.lt_of_lt_of_le g4 hW.size⟩⟩

/-- What the children of a tail yield, as far as the first j. -/
def kidsTo (D : List Int) (L : List (List Int)) (n k : Nat) (rest : Int) (tail : List Int) (j : Nat) : List (Int × Int) :=
  (List.range j).flatMap fun (i : Nat) => visitY D L n (k - 1) (vRest D L k rest tail (vLo D L k rest tail + (i : Int))) ((vLo D L k rest tail + (i : Int)) :: tail)
theorem kidsTo_succ (D : List Int) (L : List (List Int)) (n k : Nat) (rest : Int) (tail : List Int) (j : Nat) :
    kidsTo D L n k rest tail (j + 1) = kidsTo D L n k rest tail j ++ visitY D L n (k - 1) (vRest D L k rest tail (vLo D L k rest tail + (j : Int))) ((vLo D L k rest tail + (j : Int)) :: tail) := by
  simp [kidsTo, List.range_succ]
theorem visitY_zero (D : List Int) (L : List (List Int)) (n k : Nat) (rest : Int) (tail : List Int) (h : k = 0) : visitY D L n k rest tail = [((n : Int) - k, vCnt D L k rest tail)] := by
  subst h; simp [visitY]
theorem visitY_pos (D : List Int) (L : List (List Int)) (n k : Nat) (rest : Int) (tail : List Int) (h : k ≠ 0) : visitY D L n k rest tail = ((n : Int) - k, vCnt D L k rest tail) :: kidsTo D L n k rest tail (vCnt D L k rest tail).toNat := by
  obtain ⟨k, rfl⟩ : ∃ k', k = k' + 1 := ⟨k - 1, by omega⟩
  simp [visitY, kidsTo]
theorem kidsTo_prefix (D : List Int) (L : List (List Int)) (n k : Nat) (rest : Int) (tail : List Int) {i j : Nat} (h : i ≤ j) : kidsTo D L n k rest tail i <+: kidsTo D L n k rest tail j := by
  obtain ⟨m, rfl⟩ : ∃ m, j = i + m := ⟨j - i, by omega⟩
  induction m with
  | zero => exact List.prefix_rfl
  | succ m ih => rw [← Nat.add_assoc, kidsTo_succ]; exact (ih (by omega)).trans (List.prefix_append _ _)
theorem XRow.keep {w w' : World} {sz n k : Nat} {tail : List Int} (h : XRow w sz n k tail) (hb : w'.heap[sz]? = w.heap[sz]?) : XRow w' sz n k tail := by
  obtain ⟨xs, h1, h2, h3⟩ := h
  exact ⟨xs, hb.trans h1, h2, h3⟩
theorem XRow.put {w : World} {sz n k : Nat} {tail : List Int} (h : XRow w sz n (k + 1) tail) (hk : k + 1 < n) (x : Int) : XRow (w.setCell ⟨sz, k + 1, none⟩ (.int .i64 x)) sz n k (x :: tail) := by
  obtain ⟨xs, h1, h2, h3⟩ := h
  refine ⟨_, h1.set (k + 1) x, by simp [h2], ?_⟩
  have e : (xs.set (k + 1) x).drop (k + 1) = x :: xs.drop (k + 1 + 1) := by
    rw [List.drop_eq_getElem_cons (by simp; omega)]
    simp [List.drop_set]
  rw [e, h3]
theorem XRow.up {w : World} {sz n k : Nat} {x : Int} {tail : List Int} (h : XRow w sz n k (x :: tail)) : XRow w sz n (k + 1) tail := by
  obtain ⟨xs, h1, h2, h3⟩ := h
  refine ⟨xs, h1, h2, ?_⟩
  rw [← List.drop_drop, h3]; rfl
set_option maxRecDepth 100000 in
set_option maxHeartbeats 4000000 in
theorem visit_in {w wN : World} {bound : Int} {D : List Int} {L : List (List Int)} {n : Nat} {mA lA : Option Addr} {mc lc : Nat} (hV : WalkV w wN bound D L n mA lA mc lc) (hN : NumOK D L n bound) (l : Nat) (J Jx : List (Int × Int) → World → Prop)
    (hJs : ∀ pre W i v, J pre W → J pre (W.setCell ⟨w.heap.size, i, none⟩ (.int .i64 v)))
    (hY : ∀ m pre x W, J pre W → ValidY n x → YieldAt Fence.wide m Tryz.prog l #[.int .i64 x.1, .int .i64 x.2] W fun e W' =>
      (e = .returned (.bool true) ∧ J (pre ++ [x]) W' ∧ KeepW w.heap.size wN.heap.size W W') ∨ (e = .returned (.bool false) ∧ Jx (pre ++ [x]) W')) (k : Nat) :
    ∀ (rest : Int) (tail : List Int) (m : Nat) (pre : List (Int × Int)) (W : World), LevOK D n bound k rest tail → XRow W w.heap.size n k tail → KeepW (w.heap.size + 1) wN.heap.size wN W → J pre W →
      CallsIn Fence.wide m Tryz.prog 86 #[.pointer (some ⟨w.heap.size + 1, 0, none⟩), .int .i64 k, .int .i64 rest, .func (.yield l) #[] #[]] W (VisitPost w wN n k tail (visitY D L n k rest tail) J Jx pre) := by
  induction k using Nat.strongRecOn with
  | ind k ih =>
    intro rest tail m pre W hL hX hK hJ
    obtain ⟨s0, s1, s2, s3, s4⟩ := hV.read hK
    have hdl := hN.dl
    have hll := hN.ll
    have hkn := hL.kn
    have hn8 := hN.n8
    rw [hdl] at s1
    rw [hll] at s2
    have hX0 := Lib.hid hX
    obtain ⟨xs, hrow, hxl, hxd⟩ := hX
    obtain ⟨bm, om, rfl, M1⟩ := hV.minor (k := k + 1) (by omega)
    obtain ⟨bm', om', hm', M0⟩ := hV.minor (k := k) (by omega)
    injection hm' with hm'
    injection hm' with x1 x2
    subst x1 x2
    obtain ⟨m1, m2⟩ := M1 W hK
    obtain ⟨m3, m4⟩ := M0 W hK
    obtain ⟨bl, ol, B, c, rfl, l1, l2, L3, L4⟩ := hV.lam (k := k) (by omega)
    obtain ⟨l3, l4⟩ := L3 W hK
    have hrl := hN.row k hkn
    obtain ⟨lam, hlam⟩ : ∃ lam, lam = L.getD k [] := ⟨_, rfl⟩
    rw [hrl] at l1 l3
    rw [← hlam] at hrl L4
    have HL4 := Lib.hid L4
    have HLAM := Lib.hid hlam
    have HRL := Lib.hid hrl
    clear L3 L4 hlam hrl M0 M1 hdl hll
    have hsq := vSq_bounds hN hL
    have hR := vR_bounds hN hL
    have hd1 := hN.d1 (k + 1) (by omega)
    have hd2 := hN.d2 (k + 1) (by omega)
    have hmc0 := hV.mc0
    have hmc1 := hV.mc1
    have hlc0 := hV.lc0
    have hlc1 := hV.lc1
    rw [hN.dl] at hmc0
    rw [hN.ll] at hlc0
    obtain ⟨sqn, hsqn⟩ : ∃ sqn, sqn = (vSq D k rest).toNat := ⟨_, rfl⟩
    have hsqe : vD D k * rest = (sqn : Int) := by have := hsq.1; rw [hsqn]; unfold vSq at this ⊢; omega
    have hsq1 : sqn < 4611686018427387904 := by have := hsq.2; omega
    have HSQ : Hid (vSq D k rest = (sqn : Int)) := Lib.hid hsqe
    have HRT : Hid (vR D k rest = (isq sqn : Nat)) := Lib.hid (by rw [hsqn]; rfl)
    have hisq : isq sqn < 2147483648 := by have := hR.2.1; rw [HRT.out] at this; omega
    have hdd : ∀ k : Nat, (Fence.wide.depth.isSome = true → 1 ≤ k) := fun k h => by cases h
    obtain ⟨r, hr⟩ : ∃ r, r = n - 1 - k := ⟨_, rfl⟩
    rw [← hr] at l1 l3 HRL
    have HRR := Lib.hid hr
    have hr1 : r + k + 1 ≤ n := by omega
    have hr2 : n ≤ r + k + 1 := by omega
    obtain ⟨d, hd⟩ : ∃ d, d = vD D (k + 1) := ⟨_, rfl⟩
    rw [← hd] at m1 hd1 hd2
    have HD := Lib.hid hd
    obtain ⟨dk, hdk⟩ : ∃ dk, dk = vD D k := ⟨_, rfl⟩
    rw [← hdk] at m3 hsqe
    have HXD := Lib.hid hxd
    have HROW := Lib.hid hrow
    clear hr hd hdk hsqn hsq hR hxd
    refine callsIn_of_wp Tryz.func86 rfl trivial ?_ rfl
    simp only [Tryz.ntmps86, List.size_toArray, List.length_cons, List.length_nil, Nat.reduceAdd, Nat.reduceSub, Array.replicate_succ, Array.replicate_zero, List.push_toArray, List.append_toArray, List.nil_append, List.cons_append]
    gi_wp2_with fail
    gi_loop [10, 11, 12, 35] (fun s _ _ i => ∃ q : Nat, q ≤ r ∧ i = .int .i64 q ∧ s = .int .i64 (dotL (lam.take q) (tail.take q))) (fun _ _ _ i => r - (intOf i).toNat)
    case atStart => exact ⟨0, by omega, rfl, by simp [dotL]⟩
    case round =>
      obtain ⟨q, hq, rfl, rfl⟩ := hrel
      by_cases hlt : q < r
      · obtain ⟨a, ha⟩ : ∃ a, lam[q]? = some a := ⟨_, List.getElem?_eq_getElem (by have := HRL.out; omega)⟩
        obtain ⟨y, hy⟩ : ∃ y, tail[q]? = some y := ⟨_, List.getElem?_eq_getElem (by have := hL.tl; have := HRR.out; omega)⟩
        obtain ⟨b1, o1, rfl, G⟩ := HL4.out q a ha
        obtain ⟨g1, g2⟩ := G W hK
        have hxy : xs[k + 1 + q]? = some y := by rw [← hy, ← HXD.out, List.getElem?_drop]
        obtain ⟨y', hy1, hy2⟩ := hrow.cell (i := k + 1 + q) (by rw [hxl]; omega)
        rw [hxy] at hy1
        injection hy1 with hy1
        subst hy1
        have hdv := hN.d2 (k + 1) (by omega)
        have ba := hN.lam k hkn a (by rw [← HLAM.out]; exact List.mem_of_getElem? ha)
        have bb := le_absSum tail q y hy
        have bS := absSum_bound hN hL
        have bs := dotL_bound (A := 32768) (B := 549755813888) (by omega) (by omega) (lam.take q) (tail.take q) (fun z hz => by have := hN.lam k hkn z (by rw [← HLAM.out]; exact List.mem_of_mem_take hz); omega) (fun z hz => by
          obtain ⟨j, hj, e⟩ := List.getElem_of_mem (List.mem_of_mem_take hz)
          have := le_absSum tail j z (by simp [hj, e])
          omega)
        have bm := mul_abs_le (a := a) (b := y) (A := 32768) (B := 549755813888) (by omega) (by omega) (by omega) (by omega)
        have hstep := Lib.hid (dotL_take_succ lam tail q a y ha hy)
        have htl : (lam.take q).length ≤ 8 := by rw [List.length_take]; omega
        obtain ⟨s, hs⟩ : ∃ s, s = dotL (lam.take q) (tail.take q) := ⟨_, rfl⟩
        rw [← hs] at bs hstep ⊢
        have bs1 : -144115188075855872 ≤ s := by omega
        have bs2 : s ≤ 144115188075855872 := by omega
        obtain ⟨bm1, bm2⟩ := bm
        have bm3 : -18014398509481984 ≤ a * y := by omega
        have bm4 : a * y ≤ 18014398509481984 := by omega
        have bw : w.heap.size < W.heap.size := by omega
        clear hdv ba bb bS bs bm1 bm2 hs ha hy hxy G htl
        gi_wp2_with fail
        refine ⟨⟨q + 1, by omega, by go_num, by rw [hstep.out]⟩, by simp [intOf] <;> omega⟩
      · obtain rfl : q = r := by omega
        clear hlt
        have e1 : lam.take q = lam := List.take_of_length_le (by have := HRL.out; omega)
        have e2 : tail.take q = tail := List.take_of_length_le (by have := hL.tl; have := HRR.out; omega)
        rw [e1, e2]
        clear e1 e2
        have hshe : Hid (dotL lam tail = vSh L k tail) := Lib.hid (by rw [HLAM.out]; rfl)
        rw [hshe.out]
        obtain ⟨sh, hsh⟩ : ∃ sh, sh = vSh L k tail := ⟨_, rfl⟩
        have bsh := vSh_bounds hN hL
        have bmS := mulS_bound hN hL
        rw [← hsh] at bsh ⊢
        have bsh1 : -36028247263150080 ≤ sh := by omega
        have bsh2 : sh ≤ 36028247263150080 := by omega
        have HSH := Lib.hid hsh
        obtain ⟨p, hp⟩ : ∃ p, p = ((isq sqn : Int) + sh) / d := ⟨_, rfl⟩
        obtain ⟨hi, hhi⟩ : ∃ hi, hi = ((isq sqn : Int) - sh) / d := ⟨_, rfl⟩
        have HLO : Hid (vLo D L k rest tail = -p) := Lib.hid (by rw [hp, hsh, HD.out, vLo, HRT.out])
        have HHI : Hid (vHi D L k rest tail = hi) := Lib.hid (by rw [hhi, hsh, HD.out, vHi, HRT.out])
        have hends := vEnds hN hL
        have hcnt := vCnt_bounds hN hL
        have hSb := absSum_bound hN hL
        have HCNT : Hid (vCnt D L k rest tail = hi + p + 1) := Lib.hid (by rw [vCnt, HLO.out, HHI.out]; omega)
        rw [HLO.out, HHI.out, HRT.out] at hends
        rw [HCNT.out] at hcnt
        have hp1 : -1099511627776 ≤ p := by omega
        have hp2 : p ≤ 1099511627776 := by omega
        have hi1 : -1099511627776 ≤ hi := by omega
        have hi2 : hi ≤ 1099511627776 := by omega
        have hq1 := hp.symm
        have hq2 := hhi.symm
        obtain ⟨hcnt0, hcnt1⟩ := hcnt
        clear bsh bmS hends hSb hp hhi hsh
        obtain ⟨fn, tmps, assign, body, hy, hRd⟩ := hY (m - 1) pre ((n : Int) - k, hi + p + 1) W hJ ⟨by simp only; omega, by simp only; omega, hcnt0, hcnt1⟩
        dsimp only at hy hRd
        by_cases hk0 : k = 0
        · have hkb : ((k : Int) == 0) = true := by simp; omega
          have HK0 := Lib.hid hk0
          clear hk0
          gi_wp2_with (first
            | (refine ⟨trivial, hdd _, ?_⟩; gi_at_call 85; refine (callsIn_wide.2 (schur_root_any (a := sqn) (by omega))).mono ?_; rintro e w' ⟨rfl, rfl⟩)
            | (refine ⟨trivial, hdd _, ?_⟩; gi_at_call 127; refine (callsIn_wide.2 (schur_floor_any (by omega) (by omega) (by omega) (by omega))).mono ?_; rintro e w' ⟨rfl, rfl⟩)
            | ((try refine ⟨hdd _, ?_⟩); refine hRd.mono ?_; clear hRd; rintro e W1 (⟨rfl, hJ1, hk1⟩ | ⟨rfl, hx1⟩)))
          · go_ret
            refine .inl ⟨rfl, ?_, hX0.out.keep (hk1.block _ (Nat.le_refl _) (by have := lt_of_heap hV.st; omega)), hK.trans (hk1.mono (Nat.le_succ _))⟩
            rw [visitY_zero _ _ _ _ _ _ HK0.out, HCNT.out]
            exact hJ1
          · go_ret
            refine .inr ⟨rfl, [((n : Int) - k, hi + p + 1)], ?_, hx1⟩
            rw [visitY_zero _ _ _ _ _ _ HK0.out, HCNT.out]
            exact List.prefix_rfl
        · have hkb : ((k : Int) == 0) = false := by simp; omega
          have hk1' : 1 ≤ k := by omega
          have HK0 := Lib.hid hk0
          clear hk0
          gi_wp2_with (first
            | (refine ⟨trivial, hdd _, ?_⟩; gi_at_call 85; refine (callsIn_wide.2 (schur_root_any (a := sqn) (by omega))).mono ?_; rintro e w' ⟨rfl, rfl⟩)
            | (refine ⟨trivial, hdd _, ?_⟩; gi_at_call 127; refine (callsIn_wide.2 (schur_floor_any (by omega) (by omega) (by omega) (by omega))).mono ?_; rintro e w' ⟨rfl, rfl⟩)
            | ((try refine ⟨hdd _, ?_⟩); refine hRd.mono ?_; clear hRd; rintro e W1 (⟨rfl, hJ1, hk1⟩ | ⟨rfl, hx1⟩)))
          · gi_loopw [17, 18] (fun sx _ wr => ∃ (x : Int) (j : Nat), sx = .int .i64 x ∧ Hid (x = -p + j) ∧ -p ≤ x ∧ x ≤ hi + 1 ∧ J (pre ++ (((n : Int) - k, hi + p + 1) :: kidsTo D L n k rest tail j)) wr ∧ XRow wr w.heap.size n k tail ∧ KeepW (w.heap.size + 1) wN.heap.size wN wr) (fun sx _ _ => (hi + 1 - intOf sx).toNat)
            case atStart =>
              refine ⟨-p, 0, rfl, Lib.hid (by omega), by omega, by omega, ?_, hX0.out.keep (hk1.block _ (Nat.le_refl _) (by have := lt_of_heap hV.st; omega)), hK.trans (hk1.mono (Nat.le_succ _))⟩
              simpa [kidsTo] using hJ1
            case round =>
              obtain ⟨x, j, rfl, HXJ, hx1, hx2, hJ2, hX2, hK2⟩ := hrel
              clear s0 s1 s2 s3 s4 hK hJ hX0 m1 m2 m3 m4 l3 l4 hrow HROW hy hJ1 hk1 hxl HXD
              obtain ⟨s0, s1, s2, s3, s4⟩ := hV.read hK2
              rw [hN.dl] at s1
              rw [hN.ll] at s2
              by_cases hlt : x ≤ hi
              · obtain ⟨k', HK1⟩ : ∃ k', Hid (k = k' + 1) := ⟨k - 1, Lib.hid (by omega)⟩
                have hLn : LevOK D n bound (k' + 1) rest tail := by rw [← HK1.out]; exact hL
                have hin1 : vLo D L k rest tail ≤ x := by rw [HLO.out]; exact hx1
                have hin2 : x ≤ vHi D L k rest tail := by rw [HHI.out]; exact hlt
                have hub := vU_bounds hN hL hin1 hin2
                obtain ⟨hr1', hr2', -, -⟩ := vRest_bounds hN hL hin1 hin2
                obtain ⟨u, hu⟩ : ∃ u, u = d * x + sh := ⟨_, rfl⟩
                have HU : Hid (vU D L k tail x = u) := Lib.hid (by rw [hu, HSH.out, HD.out]; rfl)
                have HRS : Hid (vRest D L k rest tail x = ((sqn : Int) - u * u) / d) := Lib.hid (by rw [vRest, HU.out, HSQ.out, ← HD.out])
                rw [HU.out] at hub hr1' hr2'
                rw [HSQ.out] at hr1'
                rw [HRT.out] at hub
                have hL' : LevOK D n bound k' (((sqn : Int) - u * u) / d) (x :: tail) := by
                  have := LevOK.next hN hLn (x := x) (by rw [← HK1.out]; exact hin1) (by rw [← HK1.out]; exact hin2)
                  rw [← HK1.out, HRS.out] at this
                  exact this
                have hX3 : XRow (wr.setCell ⟨w.heap.size, k, none⟩ (.int .i64 x)) w.heap.size n k' (x :: tail) := by
                  have h1 : XRow wr w.heap.size n (k' + 1) tail := by rw [← HK1.out]; exact hX2
                  have := h1.put (by have := HK1.out; omega) x
                  rw [← HK1.out] at this; exact this
                have hcall := ih k' (by have := HK1.out; omega) _ _ (m - 1) _ _ hL' hX3 (hK2.set (p := ⟨w.heap.size, k, none⟩) (Nat.lt_succ_self _) _) (hJs _ _ k x hJ2)
                rw [show ((k' : Nat) : Int) = (k : Int) - 1 by have := HK1.out; omega] at hcall
                have HC := Lib.hid hcall
                obtain ⟨xs, hrow, hxl, -⟩ := id hX2
                obtain ⟨y0, -, hc0⟩ := hrow.cell (i := k) (by omega)
                have hf0 := hrow.frozen k
                have hu' := hu.symm
                have hub1 : -2147483648 ≤ u := by omega
                have hub2 : u ≤ 2147483648 := by omega
                have hus : u * u ≤ 4611686018427387904 := by omega
                have hdx := mul_abs_le (a := d) (b := x) (A := 65536) (B := 2199023255552) (by omega) (by omega) (by omega) (by omega)
                have hdx1 : -144115188075855872 ≤ d * x := by omega
                have hdx2 : d * x ≤ 144115188075855872 := by omega
                have bw : w.heap.size < wr.heap.size := by omega
                clear hub hu hin1 hin2 hX3 hL' hLn hcall hdx hxl hrow
                gi_wp2_with (refine ⟨trivial, hdd _, ?_⟩; gi_at_call 86; refine HC.out.mono ?_; clear HC; rintro e W3 (⟨rfl, hJ3, hX4, hK4⟩ | ⟨rfl, q', hq', hx3⟩))
                · refine ⟨⟨x + 1, j + 1, rfl, Lib.hid (by have := HXJ.out; omega), by omega, by omega, ?_, ?_, hK4⟩, by simp [intOf] <;> omega⟩
                  · rw [kidsTo_succ, HLO.out, ← HXJ.out, HRS.out, show k - 1 = k' by have := HK1.out; omega]
                    simpa [List.append_assoc] using hJ3
                  · have := hX4.up
                    rw [← HK1.out] at this; exact this
                · go_ret
                  refine .inr ⟨rfl, (((n : Int) - k, hi + p + 1) :: kidsTo D L n k rest tail j) ++ q', ?_, by simpa [List.append_assoc] using hx3⟩
                  rw [visitY_pos _ _ _ _ _ _ HK0.out, HCNT.out, List.cons_append]
                  refine List.cons_prefix_cons.2 ⟨rfl, ?_⟩
                  have h1 : kidsTo D L n k rest tail j ++ q' <+: kidsTo D L n k rest tail (j + 1) := by
                    rw [kidsTo_succ, HLO.out, ← HXJ.out, HRS.out, show k - 1 = k' by have := HK1.out; omega]
                    exact (List.prefix_append_right_inj _).2 hq'
                  exact h1.trans (kidsTo_prefix _ _ _ _ _ _ (by have := HXJ.out; omega))
              · have hj : j = (hi + p + 1).toNat := by have := HXJ.out; omega
                have HJJ := Lib.hid hj
                clear hj
                gi_wp2_with fail
                go_ret
                refine .inl ⟨rfl, ?_, hX2, hK2⟩
                rw [visitY_pos _ _ _ _ _ _ HK0.out, HCNT.out, ← HJJ.out]
                exact hJ2
          · go_ret
            refine .inr ⟨rfl, [((n : Int) - k, hi + p + 1)], ?_, hx1⟩
            rw [visitY_pos _ _ _ _ _ _ HK0.out, HCNT.out]
            exact ⟨_, rfl⟩
end Go.Proofs.YtaaldapmkhamlaaGreat

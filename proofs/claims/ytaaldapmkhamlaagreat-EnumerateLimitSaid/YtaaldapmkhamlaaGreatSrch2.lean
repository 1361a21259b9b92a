/-
  The search of collect.
-/
import Derived.Test.YtaaldapmkhamlaaGreatSrch2a
namespace Go.Proofs.YtaaldapmkhamlaaGreat
open Go.RowKit
set_option maxRecDepth 100000 in
set_option maxHeartbeats 8000000 in
theorem search_any {w1 : World} {bound : Int} {D : List Int} {L : List (List Int)} {n : Nat} {mA lA : Option Addr} {mc lc eb : Nat} {exact : Bool} (hD : Ints w1 mA 2 .i64 D) (hL : Mat64 w1 lA L) (hmc : n + 1 ≤ mc) (hmc2 : mc ≤ 9223372036854775807) (hlc : n ≤ lc) (hlc2 : lc ≤ 9223372036854775807) (hN : NumOK D L n bound) (k : Nat) :
    ∀ (rest : Int) (zero : Bool) (tail : List Int) (W : World) (lB : Option Addr) (c : Nat) (l : List (List Int)) (vs : List Value), LevOK D n bound k rest tail → (zero = true → absSum tail = 0) → XRow W (w1.heap.size + 1) n k tail → SMem w1 W n mA lA mc lc eb exact lB c l vs → (l ++ searchL D L exact k rest zero tail).length ≤ 1073741824 →
      Calls Tryz.prog 56 (#[.int .i64 k, .int .i64 rest, .bool zero] ++ sCaps w1.heap.size eb) W (SearchPost w1 n mA lA mc lc eb exact (l ++ searchL D L exact k rest zero tail) k tail) := by
  induction k using Nat.strongRecOn with
  | ind k ih =>
    intro rest zero tail W lB c l vs hLv hz hX hM hlen
    have hkn := hLv.kn
    have hn8 := hN.n8
    obtain ⟨f1, f2, -, -, f5⟩ := box_cells2 hM.fb
    have xb1 : W.cell? ⟨w1.heap.size + 2, 0, none⟩ = some (.slice (some ⟨w1.heap.size + 1, 0, none⟩) n n) := by simp [World.cell?, hM.xb]
    have sb1 : W.cell? ⟨w1.heap.size + 4, 0, none⟩ = some (.func (.func 56) #[] (sCaps w1.heap.size eb)) := by simp [World.cell?, hM.sb]
    obtain ⟨xs, hrow, hxl, hxd⟩ := id hX
    have hdl := hN.dl
    have hll := hN.ll
    have hd0 : D[k]? = some (vD D k) := by unfold vD; simp [show k < D.length by omega]
    have hd1' : D[k + 1]? = some (vD D (k + 1)) := by unfold vD; simp [show k + 1 < D.length by omega]
    obtain ⟨bm, om, -, rfl, -⟩ := hD.at_ (i := k) (by omega)
    obtain ⟨m3, m4⟩ := ints_cell (hD.ext hM.ext) hd0
    obtain ⟨m1, -⟩ := ints_cell (hD.ext hM.ext) hd1'
    obtain ⟨bl, ol, B, cl, rfl, l3, l5, l1, l2, l4⟩ := (hL.ext hM.ext).at_ (i := k) (r := L.getD k []) (by simp [show k < L.length by omega])
    have hrl := hN.row k hkn
    obtain ⟨lam, hlam⟩ : ∃ lam, lam = L.getD k [] := ⟨_, rfl⟩
    rw [hrl] at l1 l3
    rw [← hlam] at hrl l5
    have HL5 := Lib.hid l5
    have HLAM := Lib.hid hlam
    have HRL := Lib.hid hrl
    have hsq := vSq_bounds hN hLv
    have hR := vR_bounds hN hLv
    have hd1 := hN.d1 (k + 1) (by omega)
    have hd2 := hN.d2 (k + 1) (by omega)
    obtain ⟨sqn, hsqn⟩ : ∃ sqn, sqn = (vSq D k rest).toNat := ⟨_, rfl⟩
    have hsqe : vD D k * rest = (sqn : Int) := by have := hsq.1; rw [hsqn]; unfold vSq at this ⊢; omega
    have hsq1 : sqn < 4611686018427387904 := by have := hsq.2; omega
    have HSQ : Hid (vSq D k rest = (sqn : Int)) := Lib.hid hsqe
    have HRT : Hid (vR D k rest = (isq sqn : Nat)) := Lib.hid (by rw [hsqn]; rfl)
    have hisq : isq sqn < 2147483648 := by have := hR.2.1; rw [HRT.out] at this; omega
    obtain ⟨r, hr⟩ : ∃ r, r = n - 1 - k := ⟨_, rfl⟩
    rw [← hr] at l1 l3 HRL
    have HRR := Lib.hid hr
    have hr1 : r + k + 1 ≤ n := by omega
    have hr2 : n ≤ r + k + 1 := by omega
    obtain ⟨d, hd⟩ : ∃ d, d = vD D (k + 1) := ⟨_, rfl⟩
    rw [← hd] at m1 hd1 hd2
    have HD := Lib.hid hd
    obtain ⟨dk, hdk⟩ : ∃ dk, dk = vD D k := ⟨_, rfl⟩
    rw [← hdk] at m3 hsqe
    have HXD := Lib.hid hxd
    have HROW := Lib.hid hrow
    have HM := Lib.hid hM
    have HX := Lib.hid hX
    have HZ := Lib.hid hz
    have HLV := Lib.hid hLv
    have HLEN := Lib.hid hlen
    have bw : w1.heap.size + 1 < W.heap.size := by have := hM.sz; omega
    clear hr hd hdk hsqn hsq hR hxd hdl hll hd0 hd1' hlam hrl hX hM hz hlen l5
    unfold sCaps at sb1 ⊢
    go_enter Tryz.func56, Tryz.ntmps56
    go_wp2_with fail
    go_loop [12, 13, 14, 34] (fun s _ _ i => ∃ q : Nat, q ≤ r ∧ i = .int .i64 q ∧ s = .int .i64 (dotL (lam.take q) (tail.take q))) (fun _ _ _ i => r - (intOf i).toNat)
    case atStart => exact ⟨0, by omega, rfl, by simp [dotL]⟩
    case round =>
      obtain ⟨q, hq, rfl, rfl⟩ := hrel
      by_cases hlt : q < r
      · obtain ⟨a, ha⟩ : ∃ a, lam[q]? = some a := ⟨_, List.getElem?_eq_getElem (by have := HRL.out; omega)⟩
        obtain ⟨y, hy⟩ : ∃ y, tail[q]? = some y := ⟨_, List.getElem?_eq_getElem (by have := hLv.tl; have := HRR.out; omega)⟩
        obtain ⟨b1, o1, -, rfl, -⟩ := HL5.out.at_ (i := q) (by have := HRL.out; omega)
        obtain ⟨g1, g2⟩ := ints_cell HL5.out ha
        have hxy : xs[k + 1 + q]? = some y := by rw [← hy, ← HXD.out, List.getElem?_drop]
        obtain ⟨y', hy1, hy2⟩ := hrow.cell (i := k + 1 + q) (by rw [hxl]; omega)
        rw [hxy] at hy1
        injection hy1 with hy1
        subst hy1
        have hdv := hN.d2 (k + 1) (by omega)
        have ba := hN.lam k hkn a (by rw [← HLAM.out]; exact List.mem_of_getElem? ha)
        have bb := le_absSum tail q y hy
        have bS := absSum_bound hN hLv
        have bs := dotL_bound (A := 32768) (B := 549755813888) (by omega) (by omega) (lam.take q) (tail.take q) (fun z hz => by have := hN.lam k hkn z (by rw [← HLAM.out]; exact List.mem_of_mem_take hz); omega) (fun z hz => by
          obtain ⟨j, hj, e⟩ := List.getElem_of_mem (List.mem_of_mem_take hz)
          have := le_absSum tail j z (by simp [hj, e])
          omega)
        have bm := mul_abs_le (a := a) (b := y) (A := 32768) (B := 549755813888) (by omega) (by omega) (by omega) (by omega)
        have hstep := Lib.hid (dotL_take_succ lam tail q a y ha hy)
        have htl : (lam.take q).length ≤ 8 := by rw [List.length_take]; omega
        obtain ⟨s, hs⟩ : ∃ s, s = dotL (lam.take q) (tail.take q) := ⟨_, rfl⟩
        rw [← hs] at bs hstep ⊢
        have bs1 : -144115188075855872 ≤ s := by omega
        have bs2 : s ≤ 144115188075855872 := by omega
        obtain ⟨bm1, bm2⟩ := bm
        have bm3 : -18014398509481984 ≤ a * y := by omega
        have bm4 : a * y ≤ 18014398509481984 := by omega
        clear hdv ba bb bS bs bm1 bm2 hs ha hy hxy htl
        go_wp2_with fail
        refine ⟨⟨q + 1, by omega, by go_num, by rw [hstep.out]⟩, by simp [intOf] <;> omega⟩
      · obtain rfl : q = r := by omega
        clear hlt
        have e1 : lam.take q = lam := List.take_of_length_le (by have := HRL.out; omega)
        have e2 : tail.take q = tail := List.take_of_length_le (by have := hLv.tl; have := HRR.out; omega)
        rw [e1, e2]
        clear e1 e2
        have hshe : Hid (dotL lam tail = vSh L k tail) := Lib.hid (by rw [HLAM.out]; rfl)
        rw [hshe.out]
        obtain ⟨sh, hsh⟩ : ∃ sh, sh = vSh L k tail := ⟨_, rfl⟩
        have bsh := vSh_bounds hN hLv
        have bmS := mulS_bound hN hLv
        rw [← hsh] at bsh ⊢
        have bsh1 : -36028247263150080 ≤ sh := by omega
        have bsh2 : sh ≤ 36028247263150080 := by omega
        have HSH := Lib.hid hsh
        obtain ⟨p, hp⟩ : ∃ p, p = ((isq sqn : Int) + sh) / d := ⟨_, rfl⟩
        obtain ⟨hi, hhi⟩ : ∃ hi, hi = ((isq sqn : Int) - sh) / d := ⟨_, rfl⟩
        have HLO : Hid (vLo D L k rest tail = -p) := Lib.hid (by rw [hp, hsh, HD.out, vLo, HRT.out])
        have HHI : Hid (vHi D L k rest tail = hi) := Lib.hid (by rw [hhi, hsh, HD.out, vHi, HRT.out])
        have hends := vEnds hN hLv
        have hcnt := vCnt_bounds hN hLv
        have hSb := absSum_bound hN hLv
        have HCNT : Hid (vCnt D L k rest tail = hi + p + 1) := Lib.hid (by rw [vCnt, HLO.out, HHI.out]; omega)
        rw [HLO.out, HHI.out, HRT.out] at hends
        rw [HCNT.out] at hcnt
        have hp1 : -1099511627776 ≤ p := by omega
        have hp2 : p ≤ 1099511627776 := by omega
        have hi1 : -1099511627776 ≤ hi := by omega
        have hi2 : hi ≤ 1099511627776 := by omega
        have hq1 := hp.symm
        have hq2 := hhi.symm
        obtain ⟨hcnt0, hcnt1⟩ := hcnt
        have hlop : zero = true → 0 ≤ p := fun h => by have := vLo_zero hN hLv (HZ.out h); rw [HLO.out] at this; omega
        obtain ⟨lo, HLOV, hlo1⟩ : ∃ lo, Hid (sLo D L k rest zero tail = lo) ∧ lo = if zero then 0 else -p := ⟨_, Lib.hid rfl, by unfold sLo; rw [HLO.out]⟩
        clear bsh bmS hends hSb hp hhi hsh
        obtain ⟨z, HZV⟩ : ∃ z, Hid (z = zero) := ⟨_, Lib.hid rfl⟩
        obtain ⟨T, HT⟩ : ∃ T : Nat → List (List Int), Hid (∀ j, T j = searchTo D L exact k rest z tail j) := ⟨_, Lib.hid fun _ => rfl⟩
        have HT1 : Hid (∀ j, T (j + 1) = T j ++ searchC D L exact k rest z tail (lo + (j : Int))) := Lib.hid fun j => by rw [HT.out, HT.out, searchTo_succ, HZV.out, HLOV.out]
        have HTN : Hid (searchL D L exact k rest zero tail = T (hi - lo + 1).toNat) := Lib.hid (by rw [searchL_eq, HT.out, HZV.out, sCnt, HHI.out, HLOV.out])
        have HTL : Hid (∀ (x : Int) (j : Nat), x = lo + j → x ≤ hi → (l ++ T (j + 1)).length ≤ 1073741824) := Lib.hid fun x j h1 h2 => by
          have hh := HLEN.out
          rw [HTN.out, HT.out] at hh
          have := (searchTo_prefix D L exact k rest z tail (i := j + 1) (j := (hi - lo + 1).toNat) (by omega)).length_le
          rw [HT.out]
          simp only [List.length_append] at hh ⊢
          omega
        have hZ2 : Hid (z = true → absSum tail = 0) := Lib.hid (by rw [HZV.out]; exact HZ.out)
        rw [HTN.out]
        clear HZ HLOV HLEN
        cases zero
        all_goals (try simp only [if_true, if_false, Bool.false_eq_true, forall_const] at hlo1 hlop)
        all_goals (
          go_wp2_with (first
            | (go_at_call 57; refine (enumerate_root_any (a := sqn) (by omega)).mono ?_; rintro e w' ⟨rfl, rfl⟩)
            | (go_at_call 58; refine (enumerate_floor_any (by omega) (by omega) (by omega) (by omega)).mono ?_; rintro e w' ⟨rfl, rfl⟩)))
        all_goals (
          go_loopw [19, 20, 21, 99, 112] (fun sx _ _ _ _ wr => ∃ (x : Int) (j : Nat), sx = .int .i64 x ∧ Hid (x = lo + j) ∧ lo ≤ x ∧ -p ≤ x ∧ (x ≤ hi + 1 ∨ j = 0) ∧ XRow wr (w1.heap.size + 1) n k tail ∧ ∃ lB c vs, SMem w1 wr n (some ⟨bm, om, none⟩) (some ⟨bl, ol, none⟩) mc lc eb exact lB c (l ++ T j) vs) (fun sx _ _ _ _ _ => (hi + 1 - intOf sx).toNat)
          case atStart =>
            refine ⟨_, 0, rfl, Lib.hid (by omega), by omega, by omega, .inr rfl, HX.out, lB, c, vs, ?_⟩
            rw [HT.out]
            simpa [searchTo] using HM.out
          case round =>
            obtain ⟨x, j, rfl, HXJ, hx1, hx2, hx3, hX2, lB2, c2, vs2, hM2⟩ := hrel
            clear xb1 sb1 f1 f2 f5 m1 m3 m4 l2 l3 l4 hrow HROW hxl HXD HM HX bw HL5
            by_cases hlt : x ≤ hi
            · have hin1 : vLo D L k rest tail ≤ x := by rw [HLO.out]; exact hx2
              have hin2 : x ≤ vHi D L k rest tail := by rw [HHI.out]; exact hlt
              have hub := vU_bounds hN hLv hin1 hin2
              obtain ⟨hr1', hr2', -, -⟩ := vRest_bounds hN hLv hin1 hin2
              obtain ⟨u, hu⟩ : ∃ u, u = d * x + sh := ⟨_, rfl⟩
              have HU : Hid (vU D L k tail x = u) := Lib.hid (by rw [hu, HSH.out, HD.out]; rfl)
              have HRS : Hid (vRest D L k rest tail x = ((sqn : Int) - u * u) / d) := Lib.hid (by rw [vRest, HU.out, HSQ.out, ← HD.out])
              rw [HU.out] at hub hr1' hr2'
              rw [HSQ.out] at hr1'
              rw [HRT.out] at hub
              have hln := HTL.out x j HXJ.out hlt
              have xb2 : wr.cell? ⟨w1.heap.size + 2, 0, none⟩ = some (.slice (some ⟨w1.heap.size + 1, 0, none⟩) n n) := by simp [World.cell?, hM2.xb]
              have sb2 : wr.cell? ⟨w1.heap.size + 4, 0, none⟩ = some (.func (.func 56) #[] (sCaps w1.heap.size eb)) := by simp [World.cell?, hM2.sb]
              have lb2 : wr.cell? ⟨w1.heap.size + 3, 0, none⟩ = some (.slice lB2 (l ++ T j).length c2) := by simp [World.cell?, hM2.lb]
              have ec2 : wr.cell? ⟨eb, 0, none⟩ = some (.bool exact) := (World.cell?_of_block (hM2.ext.below.block eb hM2.ebl)).trans hM2.ec
              have bw2 : w1.heap.size + 5 ≤ wr.heap.size := hM2.sz
              have hebl := hM2.ebl
              obtain ⟨xs2, hrow2, hxl2, -⟩ := id hX2
              obtain ⟨y0, -, hc0⟩ := hrow2.cell (i := k) (by omega)
              have hf0 := hrow2.frozen k
              have hu' := hu.symm
              have hub1 : -2147483648 ≤ u := by omega
              have hub2 : u ≤ 2147483648 := by omega
              have hus : u * u ≤ 4611686018427387904 := by omega
              have hdx := mul_abs_le (a := d) (b := x) (A := 65536) (B := 2199023255552) (by omega) (by omega) (by omega) (by omega)
              have hdx1 : -144115188075855872 ≤ d * x := by omega
              have hdx2 : d * x ≤ 144115188075855872 := by omega
              by_cases hk0 : k = 0
              · have hkb : ¬ ((0 : Int) < k) := by omega
                have hk00 : k < 1 := by omega
                have hX3 := hX2.put0 x
                obtain ⟨hR3, hRl⟩ := hX2.full hk0 hkn x
                have hM3 := hM2.setX k (.int .i64 x)
                obtain ⟨lf, hlf⟩ : ∃ lf, lf = ((sqn : Int) - u * u) / d := ⟨_, rfl⟩
                have HLF := Lib.hid hlf
                have HNX : Hid (T (j + 1) = T j ++ if takes z exact x lf then [x :: tail] else []) := Lib.hid (by
                  rw [HT1.out, ← HXJ.out, searchC, if_pos hk0, HRS.out, hlf])
                have hlf' := hlf.symm
                clear hub hu hin1 hin2 hdx hxl2 hrow2 hlf
                have HX3 := Lib.hid hX3
                have HR3 := Lib.hid hR3
                have HM3 := Lib.hid hM3
                have HLN := Lib.hid hln
                have HRL3 := Lib.hid hRl
                have HK0 := Lib.hid hk0
                clear hM2 hX2 hX3 hR3 hM3 hln hRl hk0
                by_cases htk : takes z exact x lf = true
                · have hT2 : Hid (T (j + 1) = T j ++ [x :: tail]) := Lib.hid (by rw [HNX.out]; simp [htk])
                  have htk' : ¬ (z = true ∧ x = 0) ∧ (exact = false ∨ (exact = true ∧ lf = 0)) := by
                    cases z <;> cases exact <;> by_cases hx0 : x = 0 <;> by_cases hl0 : lf = 0 <;> simp_all [takes]
                  have htk2 : (z = false ∨ (z = true ∧ (x == 0) = false)) ∧ (exact = false ∨ (exact = true ∧ (lf == 0) = true)) := by
                    cases z <;> cases exact <;> by_cases hx0 : x = 0 <;> by_cases hl0 : lf = 0 <;> simp_all [takes]
                  rw [HZV.out] at htk2
                  simp only [Bool.false_eq_true, Bool.true_eq_false, false_and, true_and, false_or, or_false, true_or] at htk2
                  clear htk HNX htk'
                  first
                    | (obtain ⟨hx0b, he1⟩ := htk2
                       rcases he1 with rfl | ⟨rfl, hl0⟩
                       · go_wp2_with fail
                         generalize wr.setCell ⟨w1.heap.size + 1, k, none⟩ (.int .i64 x) = wS at HX3 HR3 HM3 ⊢
                         obtain ⟨ln, hln1⟩ : ∃ ln, (l ++ T j).length = ln := ⟨_, rfl⟩
                         have HLN1 := Lib.hid hln1
                         have hlb3 := HM3.out.lb
                         rw [hln1] at hlb3
                         have lb3 : wS.cell? ⟨w1.heap.size + 3, 0, none⟩ = some (.slice lB2 ln c2) := by simp [World.cell?, hlb3]
                         have lf3 : wS.frozen? ⟨w1.heap.size + 3, 0, none⟩ = false := by simp [World.frozen?, hlb3]
                         have hown3 := HM3.out.ls.own
                         rw [hln1] at hown3
                         have HO3 := Lib.hid hown3
                         have HLB := Lib.hid hlb3
                         have hle : ln + 1 ≤ 1073741824 := by
                           have := HLN.out
                           rw [hT2.out, ← List.append_assoc, List.length_append, hln1] at this
                           simpa using this
                         have xb3 : wS.cell? ⟨w1.heap.size + 2, 0, none⟩ = some (.slice (some ⟨w1.heap.size + 1, 0, none⟩) n n) := by simp [World.cell?, HM3.out.xb]
                         have bw3 := HM3.out.sz
                         have oS3 : Old (w1.heap.size + 3) wS := ⟨by omega⟩
                         have hcl := fun W (hxx : Ext wS W) => CloneI_any (w := W) (c := n) HR3.out.ints (by rw [HRL3.out]; omega)
                         rw [HRL3.out] at hcl
                         have HCL := Lib.hid hcl
                         clear hcl hln1 lb2 hlb3 hown3
                         go_region_law (first
                           | ((refine step_app _ rfl (.tmp 94) (.tmp 97) 23 rfl (w1.heap.size + 5) 22 (.slice none 0 0) 1 24 Tryz.underlying23 infoSlI64 rfl (by decide) (by decide) lB2 ln c2 vs2 (by simp [Act.eval]) (HO3.out.ext inferInstance) (some ⟨W5.heap.size, 0, none⟩) 1 1 [.slice B5 n d5] (by simp [Act.eval]) ((Arr.new W5 22 #[.slice B5 n d5]).ext inferInstance) rfl (by simp [Value.oneCell']) (by omega) (by have := hs5.size; simp at this ⊢; omega) ?_); intro A6 d6 w6 hown6 hg6; have hb6 := (hg6.below.block (w1.heap.size + 3) (by omega)).trans (heap_of_ext (inferInstance : Ext wS ((W5.alloc (Obj.cells #[Value.slice B5 n d5] 22)))) HLB.out); have q1 : w6.cell? ⟨w1.heap.size + 3, 0, none⟩ = some (.slice lB2 ln c2) := (by simp [World.cell?, hb6]); have q2 : w6.frozen? ⟨w1.heap.size + 3, 0, none⟩ = false := (by simp [World.frozen?, hb6]); have q3 : w1.heap.size + 3 < w6.heap.size := lt_of_heap hb6; clear hb6)
                           | (go_simp; go_at_call 59; refine (HCL.out _ inferInstance).mono ?_; rintro e W5 ⟨B5, d5, rfl, hO5, hs5⟩; rw [HRL3.out]))
                         all_goals (
                           obtain ⟨hX6, hM6⟩ := SMem.took HM3.out HX3.out (inferInstance : Ext wS W5) hO5 HM3.out.sz HRL3.out HLN1.out hown6 hg6 hT2.out
                           clear q1 q2 q3 hown6 hg6 hO5 hs5 HCL HO3 HLB lb3 lf3 xb3
                           generalize w6.setCell ⟨w1.heap.size + 3, 0, none⟩ (.slice A6 (ln + 1) d6) = w7 at hX6 hM6 ⊢
                           have HX6 := Lib.hid hX6
                           have HM6 := Lib.hid hM6
                           clear hX6 hM6
                           go_wp2_with fail
                           exact ⟨⟨x + 1, j + 1, rfl, Lib.hid (by have := HXJ.out; omega), by omega, by omega, .inl (by omega), HX6.out, A6, d6, _, HM6.out⟩, by simp [intOf] <;> omega⟩)
                       · go_wp2_with fail
                         generalize wr.setCell ⟨w1.heap.size + 1, k, none⟩ (.int .i64 x) = wS at HX3 HR3 HM3 ⊢
                         obtain ⟨ln, hln1⟩ : ∃ ln, (l ++ T j).length = ln := ⟨_, rfl⟩
                         have HLN1 := Lib.hid hln1
                         have hlb3 := HM3.out.lb
                         rw [hln1] at hlb3
                         have lb3 : wS.cell? ⟨w1.heap.size + 3, 0, none⟩ = some (.slice lB2 ln c2) := by simp [World.cell?, hlb3]
                         have lf3 : wS.frozen? ⟨w1.heap.size + 3, 0, none⟩ = false := by simp [World.frozen?, hlb3]
                         have hown3 := HM3.out.ls.own
                         rw [hln1] at hown3
                         have HO3 := Lib.hid hown3
                         have HLB := Lib.hid hlb3
                         have hle : ln + 1 ≤ 1073741824 := by
                           have := HLN.out
                           rw [hT2.out, ← List.append_assoc, List.length_append, hln1] at this
                           simpa using this
                         have xb3 : wS.cell? ⟨w1.heap.size + 2, 0, none⟩ = some (.slice (some ⟨w1.heap.size + 1, 0, none⟩) n n) := by simp [World.cell?, HM3.out.xb]
                         have bw3 := HM3.out.sz
                         have oS3 : Old (w1.heap.size + 3) wS := ⟨by omega⟩
                         have hcl := fun W (hxx : Ext wS W) => CloneI_any (w := W) (c := n) HR3.out.ints (by rw [HRL3.out]; omega)
                         rw [HRL3.out] at hcl
                         have HCL := Lib.hid hcl
                         clear hcl hln1 lb2 hlb3 hown3
                         go_region_law (first
                           | ((refine step_app _ rfl (.tmp 94) (.tmp 97) 23 rfl (w1.heap.size + 5) 22 (.slice none 0 0) 1 24 Tryz.underlying23 infoSlI64 rfl (by decide) (by decide) lB2 ln c2 vs2 (by simp [Act.eval]) (HO3.out.ext inferInstance) (some ⟨W5.heap.size, 0, none⟩) 1 1 [.slice B5 n d5] (by simp [Act.eval]) ((Arr.new W5 22 #[.slice B5 n d5]).ext inferInstance) rfl (by simp [Value.oneCell']) (by omega) (by have := hs5.size; simp at this ⊢; omega) ?_); intro A6 d6 w6 hown6 hg6; have hb6 := (hg6.below.block (w1.heap.size + 3) (by omega)).trans (heap_of_ext (inferInstance : Ext wS ((W5.alloc (Obj.cells #[Value.slice B5 n d5] 22)))) HLB.out); have q1 : w6.cell? ⟨w1.heap.size + 3, 0, none⟩ = some (.slice lB2 ln c2) := (by simp [World.cell?, hb6]); have q2 : w6.frozen? ⟨w1.heap.size + 3, 0, none⟩ = false := (by simp [World.frozen?, hb6]); have q3 : w1.heap.size + 3 < w6.heap.size := lt_of_heap hb6; clear hb6)
                           | (go_simp; go_at_call 59; refine (HCL.out _ inferInstance).mono ?_; rintro e W5 ⟨B5, d5, rfl, hO5, hs5⟩; rw [HRL3.out]))
                         all_goals (
                           obtain ⟨hX6, hM6⟩ := SMem.took HM3.out HX3.out (inferInstance : Ext wS W5) hO5 HM3.out.sz HRL3.out HLN1.out hown6 hg6 hT2.out
                           clear q1 q2 q3 hown6 hg6 hO5 hs5 HCL HO3 HLB lb3 lf3 xb3
                           generalize w6.setCell ⟨w1.heap.size + 3, 0, none⟩ (.slice A6 (ln + 1) d6) = w7 at hX6 hM6 ⊢
                           have HX6 := Lib.hid hX6
                           have HM6 := Lib.hid hM6
                           clear hX6 hM6
                           go_wp2_with fail
                           exact ⟨⟨x + 1, j + 1, rfl, Lib.hid (by have := HXJ.out; omega), by omega, by omega, .inl (by omega), HX6.out, A6, d6, _, HM6.out⟩, by simp [intOf] <;> omega⟩))
                    | (rcases htk2 with rfl | ⟨rfl, hl0⟩
                       · go_wp2_with fail
                         generalize wr.setCell ⟨w1.heap.size + 1, k, none⟩ (.int .i64 x) = wS at HX3 HR3 HM3 ⊢
                         obtain ⟨ln, hln1⟩ : ∃ ln, (l ++ T j).length = ln := ⟨_, rfl⟩
                         have HLN1 := Lib.hid hln1
                         have hlb3 := HM3.out.lb
                         rw [hln1] at hlb3
                         have lb3 : wS.cell? ⟨w1.heap.size + 3, 0, none⟩ = some (.slice lB2 ln c2) := by simp [World.cell?, hlb3]
                         have lf3 : wS.frozen? ⟨w1.heap.size + 3, 0, none⟩ = false := by simp [World.frozen?, hlb3]
                         have hown3 := HM3.out.ls.own
                         rw [hln1] at hown3
                         have HO3 := Lib.hid hown3
                         have HLB := Lib.hid hlb3
                         have hle : ln + 1 ≤ 1073741824 := by
                           have := HLN.out
                           rw [hT2.out, ← List.append_assoc, List.length_append, hln1] at this
                           simpa using this
                         have xb3 : wS.cell? ⟨w1.heap.size + 2, 0, none⟩ = some (.slice (some ⟨w1.heap.size + 1, 0, none⟩) n n) := by simp [World.cell?, HM3.out.xb]
                         have bw3 := HM3.out.sz
                         have oS3 : Old (w1.heap.size + 3) wS := ⟨by omega⟩
                         have hcl := fun W (hxx : Ext wS W) => CloneI_any (w := W) (c := n) HR3.out.ints (by rw [HRL3.out]; omega)
                         rw [HRL3.out] at hcl
                         have HCL := Lib.hid hcl
                         clear hcl hln1 lb2 hlb3 hown3
                         go_region_law (first
                           | ((refine step_app _ rfl (.tmp 94) (.tmp 97) 23 rfl (w1.heap.size + 5) 22 (.slice none 0 0) 1 24 Tryz.underlying23 infoSlI64 rfl (by decide) (by decide) lB2 ln c2 vs2 (by simp [Act.eval]) (HO3.out.ext inferInstance) (some ⟨W5.heap.size, 0, none⟩) 1 1 [.slice B5 n d5] (by simp [Act.eval]) ((Arr.new W5 22 #[.slice B5 n d5]).ext inferInstance) rfl (by simp [Value.oneCell']) (by omega) (by have := hs5.size; simp at this ⊢; omega) ?_); intro A6 d6 w6 hown6 hg6; have hb6 := (hg6.below.block (w1.heap.size + 3) (by omega)).trans (heap_of_ext (inferInstance : Ext wS ((W5.alloc (Obj.cells #[Value.slice B5 n d5] 22)))) HLB.out); have q1 : w6.cell? ⟨w1.heap.size + 3, 0, none⟩ = some (.slice lB2 ln c2) := (by simp [World.cell?, hb6]); have q2 : w6.frozen? ⟨w1.heap.size + 3, 0, none⟩ = false := (by simp [World.frozen?, hb6]); have q3 : w1.heap.size + 3 < w6.heap.size := lt_of_heap hb6; clear hb6)
                           | (go_simp; go_at_call 59; refine (HCL.out _ inferInstance).mono ?_; rintro e W5 ⟨B5, d5, rfl, hO5, hs5⟩; rw [HRL3.out]))
                         all_goals (
                           obtain ⟨hX6, hM6⟩ := SMem.took HM3.out HX3.out (inferInstance : Ext wS W5) hO5 HM3.out.sz HRL3.out HLN1.out hown6 hg6 hT2.out
                           clear q1 q2 q3 hown6 hg6 hO5 hs5 HCL HO3 HLB lb3 lf3 xb3
                           generalize w6.setCell ⟨w1.heap.size + 3, 0, none⟩ (.slice A6 (ln + 1) d6) = w7 at hX6 hM6 ⊢
                           have HX6 := Lib.hid hX6
                           have HM6 := Lib.hid hM6
                           clear hX6 hM6
                           go_wp2_with fail
                           exact ⟨⟨x + 1, j + 1, rfl, Lib.hid (by have := HXJ.out; omega), by omega, by omega, .inl (by omega), HX6.out, A6, d6, _, HM6.out⟩, by simp [intOf] <;> omega⟩)
                       · go_wp2_with fail
                         generalize wr.setCell ⟨w1.heap.size + 1, k, none⟩ (.int .i64 x) = wS at HX3 HR3 HM3 ⊢
                         obtain ⟨ln, hln1⟩ : ∃ ln, (l ++ T j).length = ln := ⟨_, rfl⟩
                         have HLN1 := Lib.hid hln1
                         have hlb3 := HM3.out.lb
                         rw [hln1] at hlb3
                         have lb3 : wS.cell? ⟨w1.heap.size + 3, 0, none⟩ = some (.slice lB2 ln c2) := by simp [World.cell?, hlb3]
                         have lf3 : wS.frozen? ⟨w1.heap.size + 3, 0, none⟩ = false := by simp [World.frozen?, hlb3]
                         have hown3 := HM3.out.ls.own
                         rw [hln1] at hown3
                         have HO3 := Lib.hid hown3
                         have HLB := Lib.hid hlb3
                         have hle : ln + 1 ≤ 1073741824 := by
                           have := HLN.out
                           rw [hT2.out, ← List.append_assoc, List.length_append, hln1] at this
                           simpa using this
                         have xb3 : wS.cell? ⟨w1.heap.size + 2, 0, none⟩ = some (.slice (some ⟨w1.heap.size + 1, 0, none⟩) n n) := by simp [World.cell?, HM3.out.xb]
                         have bw3 := HM3.out.sz
                         have oS3 : Old (w1.heap.size + 3) wS := ⟨by omega⟩
                         have hcl := fun W (hxx : Ext wS W) => CloneI_any (w := W) (c := n) HR3.out.ints (by rw [HRL3.out]; omega)
                         rw [HRL3.out] at hcl
                         have HCL := Lib.hid hcl
                         clear hcl hln1 lb2 hlb3 hown3
                         go_region_law (first
                           | ((refine step_app _ rfl (.tmp 94) (.tmp 97) 23 rfl (w1.heap.size + 5) 22 (.slice none 0 0) 1 24 Tryz.underlying23 infoSlI64 rfl (by decide) (by decide) lB2 ln c2 vs2 (by simp [Act.eval]) (HO3.out.ext inferInstance) (some ⟨W5.heap.size, 0, none⟩) 1 1 [.slice B5 n d5] (by simp [Act.eval]) ((Arr.new W5 22 #[.slice B5 n d5]).ext inferInstance) rfl (by simp [Value.oneCell']) (by omega) (by have := hs5.size; simp at this ⊢; omega) ?_); intro A6 d6 w6 hown6 hg6; have hb6 := (hg6.below.block (w1.heap.size + 3) (by omega)).trans (heap_of_ext (inferInstance : Ext wS ((W5.alloc (Obj.cells #[Value.slice B5 n d5] 22)))) HLB.out); have q1 : w6.cell? ⟨w1.heap.size + 3, 0, none⟩ = some (.slice lB2 ln c2) := (by simp [World.cell?, hb6]); have q2 : w6.frozen? ⟨w1.heap.size + 3, 0, none⟩ = false := (by simp [World.frozen?, hb6]); have q3 : w1.heap.size + 3 < w6.heap.size := lt_of_heap hb6; clear hb6)
                           | (go_simp; go_at_call 59; refine (HCL.out _ inferInstance).mono ?_; rintro e W5 ⟨B5, d5, rfl, hO5, hs5⟩; rw [HRL3.out]))
                         all_goals (
                           obtain ⟨hX6, hM6⟩ := SMem.took HM3.out HX3.out (inferInstance : Ext wS W5) hO5 HM3.out.sz HRL3.out HLN1.out hown6 hg6 hT2.out
                           clear q1 q2 q3 hown6 hg6 hO5 hs5 HCL HO3 HLB lb3 lf3 xb3
                           generalize w6.setCell ⟨w1.heap.size + 3, 0, none⟩ (.slice A6 (ln + 1) d6) = w7 at hX6 hM6 ⊢
                           have HX6 := Lib.hid hX6
                           have HM6 := Lib.hid hM6
                           clear hX6 hM6
                           go_wp2_with fail
                           exact ⟨⟨x + 1, j + 1, rfl, Lib.hid (by have := HXJ.out; omega), by omega, by omega, .inl (by omega), HX6.out, A6, d6, _, HM6.out⟩, by simp [intOf] <;> omega⟩))
                · have hT2 : Hid (T (j + 1) = T j) := Lib.hid (by rw [HNX.out]; simp [htk])
                  have htk' : (z = true ∧ (x == 0) = true) ∨ (z = true ∧ (x == 0) = false ∧ exact = true ∧ (lf == 0) = false) ∨ (z = false ∧ exact = true ∧ (lf == 0) = false) := by
                    cases z <;> cases exact <;> by_cases hx0 : x = 0 <;> by_cases hl0 : lf = 0 <;> simp_all [takes]
                  rw [HZV.out] at htk'
                  simp only [Bool.false_eq_true, Bool.true_eq_false, false_and, true_and, false_or, or_false] at htk'
                  clear htk HNX
                  have hfin : ∀ v : Value, v = .int .i64 (x + 1) → (∃ (x' : Int) (j : Nat), v = .int .i64 x' ∧ Hid (x' = lo + j) ∧ lo ≤ x' ∧ -p ≤ x' ∧ (x' ≤ hi + 1 ∨ j = 0) ∧ XRow (wr.setCell ⟨w1.heap.size + 1, k, none⟩ (.int .i64 x)) (w1.heap.size + 1) n k tail ∧ ∃ lB c vs, SMem w1 (wr.setCell ⟨w1.heap.size + 1, k, none⟩ (.int .i64 x)) n (some ⟨bm, om, none⟩) (some ⟨bl, ol, none⟩) mc lc eb exact lB c (l ++ T j) vs) := fun v hv => ⟨x + 1, j + 1, hv, Lib.hid (by have := HXJ.out; omega), by omega, by omega, .inl (by omega), HX3.out, lB2, c2, vs2, by rw [hT2.out]; exact HM3.out⟩
                  have HFIN := Lib.hid hfin
                  clear hfin
                  first
                    | (obtain ⟨rfl, hl0⟩ := htk'
                       go_wp2_with fail
                       exact ⟨HFIN.out _ rfl, by simp [intOf] <;> omega⟩)
                    | (rcases htk' with hx0b | ⟨hx0b, rfl, hl0⟩
                       · go_wp2_with fail
                         exact ⟨HFIN.out _ rfl, by simp [intOf] <;> omega⟩
                       · go_wp2_with fail
                         exact ⟨HFIN.out _ rfl, by simp [intOf] <;> omega⟩)
              · obtain ⟨k', HK1⟩ : ∃ k', Hid (k = k' + 1) := ⟨k - 1, Lib.hid (by omega)⟩
                have hk1' : 1 ≤ k := by omega
                have hkb : decide ((0 : Int) < k) = true := by simp; omega
                have hLn : LevOK D n bound (k' + 1) rest tail := by rw [← HK1.out]; exact hLv
                have hL' : LevOK D n bound k' (((sqn : Int) - u * u) / d) (x :: tail) := by
                  have := LevOK.next hN hLn (x := x) (by rw [← HK1.out]; exact hin1) (by rw [← HK1.out]; exact hin2)
                  rw [← HK1.out, HRS.out] at this
                  exact this
                have hX3 : XRow (wr.setCell ⟨w1.heap.size + 1, k, none⟩ (.int .i64 x)) (w1.heap.size + 1) n k' (x :: tail) := by
                  have h1 : XRow wr (w1.heap.size + 1) n (k' + 1) tail := by rw [← HK1.out]; exact hX2
                  have := h1.put (by have := HK1.out; omega) x
                  rw [← HK1.out] at this; exact this
                obtain ⟨zb, HZB⟩ : ∃ zb, Hid (zb = (z && decide (x = 0))) := ⟨_, Lib.hid rfl⟩
                have hz3 : zb = true → absSum (x :: tail) = 0 := fun h => by
                  rw [HZB.out] at h
                  simp at h
                  have := hZ2.out h.1
                  simp [absSum, h.2] at this ⊢
                  exact this
                have HNX : Hid (T (j + 1) = T j ++ searchL D L exact k' (((sqn : Int) - u * u) / d) zb (x :: tail)) := Lib.hid (by
                  rw [HT1.out, ← HXJ.out, searchC, if_neg hk0, HRS.out, HZB.out, show k - 1 = k' by have := HK1.out; omega])
                have hcall := ih k' (by have := HK1.out; omega) _ zb _ _ _ _ (l ++ T j) _ hL' hz3 hX3 (hM2.setX k (.int .i64 x)) (by rw [List.append_assoc, ← HNX.out]; exact hln)
                rw [List.append_assoc, ← HNX.out, show ((k' : Nat) : Int) = (k : Int) - 1 by have := HK1.out; omega] at hcall
                unfold sCaps at sb2 hcall
                simp only [List.append_toArray, List.cons_append, List.nil_append] at hcall
                have HC := Lib.hid hcall
                have hfn := isFn_search
                unfold IsFn at hfn
                clear hub hu hin1 hin2 hX3 hL' hLn hcall hdx hxl2 hrow2 hz3 hln hk0
                have HM2 := Lib.hid hM2
                have HX2 := Lib.hid hX2
                clear hM2 hX2
                by_cases hx0 : x = 0
                all_goals (
                  have hzb := HZB.out
                  rw [HZV.out] at hzb
                  simp [hx0] at hzb
                  subst hzb)
                · have hx0b : (x == 0) = true := by simp [hx0]
                  clear hx0
                  go_wp2_with (refine HC.out.mono ?_; rintro e W3 ⟨rfl, hX4, lB4, c4, vs4, hM4⟩)
                  refine ⟨⟨x + 1, j + 1, rfl, Lib.hid (by have := HXJ.out; omega), by omega, by omega, .inl (by omega), ?_, lB4, c4, vs4, hM4⟩, by simp [intOf] <;> omega⟩
                  have := hX4.up
                  rw [← HK1.out] at this; exact this
                · have hx0b : (x == 0) = false := by simp [hx0]
                  clear hx0
                  go_wp2_with (refine HC.out.mono ?_; rintro e W3 ⟨rfl, hX4, lB4, c4, vs4, hM4⟩)
                  refine ⟨⟨x + 1, j + 1, rfl, Lib.hid (by have := HXJ.out; omega), by omega, by omega, .inl (by omega), ?_, lB4, c4, vs4, hM4⟩, by simp [intOf] <;> omega⟩
                  have := hX4.up
                  rw [← HK1.out] at this; exact this
            · have hj : j = (hi - lo + 1).toNat := by have := HXJ.out; omega
              have HJJ := Lib.hid hj
              clear hj
              go_wp2_with fail
              go_end0
              refine ⟨rfl, hX2, lB2, c2, vs2, ?_⟩
              rw [HTN.out, ← HJJ.out]
              exact hM2)
end Go.Proofs.YtaaldapmkhamlaaGreat

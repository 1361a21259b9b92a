/-
  Contracts of functions of the program, joined: Enum3, Bud11. No statement of the seat is proved here.
-/
import Derived.Test.YtjehjkipcaohpaaGreatJ11
import Derived.Test.YtjehjkipcaohpaaGreatJ20
set_option linter.unusedVariables false
set_option linter.unusedSimpArgs false
set_option linter.constructorNameAsVariable false
namespace Go.Proofs.YtjehjkipcaohpaaGreat
open Go.RowKit
theorem Vectors_err {w0 w : World} {A : Option Addr} {c : Nat} {m : List (List Int)} {bound budget k : Int} (h : Mat64 w0 A m) (hlen : m.length ≤ 1099511627776) (hc : m.length ≤ c) (hc2 : c ≤ 9223372036854775807) (hf : isRedB m = true → FormOK m) (hs : stepsSpec m bound budget = ([], k)) (h1 : 1 ≤ k) (h2 : k ≤ 100) [hx : Ext w0 w] :
    Calls Tryz.prog 23 #[.slice A m.length c, .int .i64 bound, .int .i64 budget] w (RetVal w (.tuple #[.slice none 0 0, .int .i64 0, .int .i64 k])) := by
  have hst := fun W (hh : Ext w0 W) => Steps_any (w := W) (bound := bound) (budget := budget) h hlen hc hc2 hf
  rw [hs] at hst
  have HST := Lib.hid hst
  have hk : (k != 0) = true := by simp; omega
  clear hst hs hf
  go_enter Tryz.func23, Tryz.ntmps23
  go_wp2_with (go_at_call 49; refine (HST.out _ inferInstance).mono ?_; rintro e w1 ⟨A1, c1, rfl, hI, k1, k2, hs1⟩)
  go_ret3
  exact ⟨rfl, Step.of _ _⟩
end Go.Proofs.YtjehjkipcaohpaaGreat
namespace Go.Proofs.YtjehjkipcaohpaaGreat
open Go.RowKit
/-- Vectors with too small a budget. -/
theorem Vectors_few {w0 w : World} {A : Option Addr} {c b : Nat} {m : List (List Int)} {budget : Int} (h : Mat64 w0 A m) (hc : m.length ≤ c) (hc2 : c ≤ 9223372036854775807) (hr : isRedB m = true) (hb : (b : Int) < 1073741824) (h0 : 0 ≤ budget) (hbd : budget < totS m b) (hbd2 : budget ≤ 1000000) [hx : Ext w0 w] :
    Calls Tryz.prog 23 #[.slice A m.length c, .int .i64 b, .int .i64 budget] w (RetVal w (.tuple #[.slice none 0 0, .int .i64 0, .int .i64 9])) := by
  have hR := red_ok hr
  have hl := isSmallB_len hR.small
  have hspec := (steps_ok hr hb).1.spec budget h0 hbd2
  rw [if_neg (by omega)] at hspec
  exact Vectors_err h (by omega) hc hc2 (fun _ => hR.form) hspec (by omega) (by omega)
set_option maxHeartbeats 4000000 in
theorem EnumerateBudget_any {w : World} {dim kind bound : Int} {NA : Option Addr} {l : List Int} {nc : Nat} {v3 : Value} {te : TypeId} (hN : Ints w NA te .i8 l) (h8 : I8 l) (hl : l.length ≤ 9223372036854775807) (hd0 : 0 ≤ dim) (hd1 : dim < 256) (hk0 : 0 ≤ kind) (hk1 : kind < 256) (hb0 : 0 ≤ bound) (hb1 : bound < 256) :
    Calls Tryz.prog 7 #[.agg #[.int .u8 dim, .int .u8 kind, .slice NA l.length nc, v3], .int .u8 bound] w (RetVal w (.bool true)) := by
  have HG : Hid (∀ W, Ext w W → Calls Tryz.prog 22 #[.agg #[.int .u8 dim, .int .u8 kind, .slice NA l.length nc, v3], .int .u8 bound] W (RetSmall W (1 + (dim % 4).toNat) bound)) := Lib.hid (fun W e => rsmall11_ok (hN.ext e) h8 hl hd0 hd1 hk0 hk1 hb0 hb1)
  have hn1 : 1 ≤ 1 + (dim % 4).toNat := by omega
  have hn4 : 1 + (dim % 4).toNat ≤ 4 := by omega
  clear hN h8
  generalize 1 + (dim % 4).toNat = n at *
  have e6 := Int.emod_nonneg bound (show 13 - 2 * (n : Int) ≠ 0 by omega)
  have e7 := Int.emod_lt_of_pos bound (show 0 < 13 - 2 * (n : Int) by omega)
  unfold RetSmall at HG
  obtain ⟨b, hb⟩ : ∃ b : Nat, bound % (13 - 2 * (n : Int)) = b := ⟨(bound % (13 - 2 * (n : Int))).toNat, by omega⟩
  rw [hb] at HG e6 e7
  have HV : Hid (∀ (m : List (List Int)) (q : Int) (W0 W : World) A c, isRedB m = true → m.length = n → totS m b ≤ q → q ≤ 1000000 → Mat64 W0 A m → n ≤ c → c ≤ 9223372036854775807 → Ext W0 W → Calls Tryz.prog 23 #[.slice A n c, .int .i64 b, .int .i64 q] W (RetVL W m b)) := Lib.hid (fun m q W0 W A c hr hmn hq hq2 hM h1 h2 e => by
    have := Vectors_red (w := W) (c := c) (b := b) (budget := q) hM (by omega) h2 hr (by omega) (by omega) hq hq2
    rwa [hmn] at this)
  have HF : Hid (∀ (m : List (List Int)) (q : Int) (W0 W : World) A c, isRedB m = true → m.length = n → 0 ≤ q → q < totS m b → q ≤ 1000000 → Mat64 W0 A m → n ≤ c → c ≤ 9223372036854775807 → Ext W0 W → Calls Tryz.prog 23 #[.slice A n c, .int .i64 b, .int .i64 q] W (RetVal W (.tuple #[.slice none 0 0, .int .i64 0, .int .i64 9]))) := Lib.hid (fun m q W0 W A c hr hmn h0 hq hq2 hM h1 h2 e => by
    have := Vectors_few (w := W) (c := c) (b := b) (budget := q) hM (by omega) h2 hr (by omega) h0 hq hq2
    rwa [hmn] at this)
  clear hb
  go_enter Tryz.func7, Tryz.ntmps7
  go_upto_region 2 with (go_at_call 22; refine (HG.out _ inferInstance).mono ?_; rintro e w1 ⟨g, m, A1, c1, rfl, -, hLL, hlen, -, hM1, hc1, hc2, hs1⟩; have hred := hLL.red; have HM := Lib.hid hM1; have HR := Lib.hid hred; have ht1 := few_steps2 hred (b := b) (by omega) (by omega); have ht2 := totS_ge hred (b := b) (by omega); rw [hlen] at ht2; clear hM1 hred hLL)
  go_upto_region 3 with (go_at_call 23; refine (HV.out _ _ _ _ _ _ HR.out hlen (by omega) (by omega) HM.out hc1 hc2 inferInstance).mono ?_; rintro e w2 ⟨B2, d2, L2, rfl, hM2, h21, h22, hV2, h23, hs2⟩; have HM2 := Lib.hid hM2; have HV2 := Lib.hid hV2; clear hM2 hV2)
  go_upto_region 4 with (go_at_call 23; refine (HV.out _ _ _ _ _ _ HR.out hlen (by omega) (by omega) HM.out hc1 hc2 inferInstance).mono ?_; rintro e w3 ⟨B3, d3, L3, rfl, hM3, h31, h32, hV3, h33, hs3⟩; have HM3 := Lib.hid hM3; have HV3 := Lib.hid hV3; clear hM3 hV3)
  have hLe : L2 = L3 := VecList.unique HV2.out HV3.out
  subst hLe
  have HRW := Lib.hid HV2.out.rows
  rw [hlen] at HRW
  have htw : IntKind.i64.wrap (totS m b - 1) = totS m b - 1 := IntWalk.i64_in _ (by omega)
  go_upto_region 5 with (go_at_call 23; refine (HF.out _ _ _ _ _ _ HR.out hlen (by omega) (by omega) (by omega) HM.out hc1 hc2 inferInstance).mono ?_; rintro e w4 ⟨rfl, hs4⟩)
  have HSM : Hid (∀ W (c d : Nat), Ext w3 W → Calls Tryz.prog 25 #[.slice B2 L2.length c, .slice B3 L2.length d] W (RetQ W (.bool true))) := Lib.hid (fun W c d e => by
    have h := ref09_Same_any (w := W) (c := c) (d := d) (HM2.out.ext (inferInstance : Ext w2 w3)) HM3.out (by omega) (by omega) (fun r hr => by rw [HRW.out r hr]; omega) (fun r hr => by rw [HRW.out r hr]; omega)
    rwa [decide_eq_true rfl] at h)
  generalize totS m b = t1 at *
  clear HM2 HM3 HV2 HV3
  go_wp2_with (first
    | (go_at_call 25; refine (HSM.out _ _ _ inferInstance).mono ?_; rintro e w5 ⟨rfl, nq, rfl⟩)
    | (go_at_call 26; refine awake11_any.mono ?_; rintro e w6 ⟨rfl, hs6⟩))
  go_ret
  exact ⟨rfl, Step.of _ _⟩
end Go.Proofs.YtjehjkipcaohpaaGreat

/-
  Contracts of functions of the program, joined: Beg11. No statement of the seat is proved here.
-/
import Derived.Test.YtjehjkipcaohpaaGreatJ20
set_option linter.unusedVariables false
set_option linter.unusedSimpArgs false
set_option linter.constructorNameAsVariable false
namespace Go.Proofs.YtjehjkipcaohpaaGreat
open Go.RowKit
theorem Mat64.take {w : World} {A : Option Addr} {m : List (List Int)} (h : Mat64 w A m) (k : Nat) : Mat64 w A (m.take k) := by
  obtain ⟨vs, h1, h2, h3⟩ := h
  refine ⟨vs.take k, by simp [h1], fun h0 => ?_, fun i r hr => ?_⟩
  · obtain ⟨b, o, cs, fr, hA, hb, hc⟩ := h2 (by rw [List.length_take] at h0; omega)
    exact ⟨b, o, cs, fr, hA, hb, fun i v hv => hc i v (by rw [List.getElem?_take] at hv; split at hv; exact hv; cases hv)⟩
  · rw [List.getElem?_take] at hr
    split at hr
    · rename_i hi
      obtain ⟨B, c, a1, a2⟩ := h3 i r hr
      exact ⟨B, c, by rw [List.getElem?_take, if_pos hi]; exact a1, a2⟩
    · cases hr
set_option maxHeartbeats 4000000 in
theorem EnumerateBegins_any {w : World} {dim kind bound more : Int} {NA : Option Addr} {l : List Int} {nc : Nat} {v3 : Value} {te : TypeId} (hN : Ints w NA te .i8 l) (h8 : I8 l) (hl : l.length ≤ 9223372036854775807) (hd0 : 0 ≤ dim) (hd1 : dim < 256) (hk0 : 0 ≤ kind) (hk1 : kind < 256) (hb0 : 0 ≤ bound) (hb1 : bound < 256) (hm0 : 0 ≤ more) (hm1 : more < 256) :
    Calls Tryz.prog 6 #[.agg #[.int .u8 dim, .int .u8 kind, .slice NA l.length nc, v3], .int .u8 bound, .int .u8 more] w (RetVal w (.bool true)) := by
  have HG : Hid (∀ W, Ext w W → Calls Tryz.prog 22 #[.agg #[.int .u8 dim, .int .u8 kind, .slice NA l.length nc, v3], .int .u8 bound] W (RetSmall W (1 + (dim % 4).toNat) bound)) := Lib.hid (fun W e => rsmall11_ok (hN.ext e) h8 hl hd0 hd1 hk0 hk1 hb0 hb1)
  have hn1 : 1 ≤ 1 + (dim % 4).toNat := by omega
  have hn4 : 1 + (dim % 4).toNat ≤ 4 := by omega
  clear hN h8
  generalize 1 + (dim % 4).toNat = n at *
  have e6 := Int.emod_nonneg bound (show 13 - 2 * (n : Int) ≠ 0 by omega)
  have e7 := Int.emod_lt_of_pos bound (show 0 < 13 - 2 * (n : Int) by omega)
  unfold RetSmall at HG
  obtain ⟨b, hb⟩ : ∃ b : Nat, bound % (13 - 2 * (n : Int)) = b := ⟨(bound % (13 - 2 * (n : Int))).toNat, by omega⟩
  rw [hb] at HG e6 e7
  have f6 := Int.emod_nonneg more (show (b : Int) + 1 ≠ 0 by omega)
  have f7 := Int.emod_lt_of_pos more (show 0 < (b : Int) + 1 by omega)
  have hmt : more.tmod ((b : Int) + 1) = more % ((b : Int) + 1) := Int.tmod_eq_emod_of_nonneg hm0
  obtain ⟨a, ha⟩ : ∃ a : Nat, more % ((b : Int) + 1) = a := ⟨(more % ((b : Int) + 1)).toNat, by omega⟩
  rw [ha] at f6 f7 hmt
  have hbz : (((b : Int) + 1) == 0) = false := by simp; omega
  have hbw : IntKind.i64.wrap ((b : Int) + 1) = (b : Int) + 1 := IntWalk.i64_in _ (by omega)
  have hmw : IntKind.i64.wrap more = more := IntWalk.i64_in _ (by omega)
  have haw : IntKind.i64.wrap (a : Int) = (a : Int) := IntWalk.i64_in _ (by omega)
  have HV : Hid (∀ (m : List (List Int)) (q : Nat) (W0 W : World) A c, isRedB m = true → m.length = n → q ≤ b → Mat64 W0 A m → n ≤ c → c ≤ 9223372036854775807 → Ext W0 W → Calls Tryz.prog 23 #[.slice A n c, .int .i64 q, .int .i64 20000] W (RetVL W m q)) := Lib.hid (fun m q W0 W A c hr hmn hq hM h1 h2 e => by
    have := few_steps2 hr (b := q) (by omega) (by omega)
    have := Vectors_red (w := W) (c := c) (b := q) (budget := 20000) hM (by omega) h2 hr (by omega) (by omega) (by omega) (by omega)
    rwa [hmn] at this)
  clear ha hb
  go_enter Tryz.func6, Tryz.ntmps6
  go_upto_region 4 with (first
    | (go_at_call 22; refine (HG.out _ inferInstance).mono ?_; rintro e w1 ⟨g, m, A1, c1, rfl, -, hLL, hlen, -, hM1, hc1, hc2, hs1⟩; have hred := hLL.red; have HM := Lib.hid hM1; have HR := Lib.hid hred; clear hM1 hred hLL)
    | (go_at_call 23; refine (HV.out _ _ _ _ _ _ HR.out hlen (by omega) HM.out hc1 hc2 inferInstance).mono ?_; rintro e w2 ⟨B2, d2, L2, rfl, hM2, h21, h22, hV2, h23, hs2⟩; have HM2 := Lib.hid hM2; have HV2 := Lib.hid hV2; clear hM2 hV2))
  go_upto_region 5 with (go_at_call 23; refine (HV.out _ _ _ _ _ _ HR.out hlen (by omega) HM.out hc1 hc2 inferInstance).mono ?_; rintro e w3 ⟨B3, d3, L3, rfl, hM3, h31, h32, hV3, h33, hs3⟩)
  have hle : L2.length ≤ L3.length := by
    have := congrArg List.length (VecList.begins (b1 := a) (b2 := b) (by omega) HV2.out hV3)
    rw [List.length_take] at this
    omega
  have hbeg := VecList.begins (b1 := a) (b2 := b) (by omega) HV2.out hV3
  have ht1 := tot_mono (red_ok HR.out) (b1 := a) (b2 := b) (by omega) (by omega) (by omega)
  have ht2 := totS_ge HR.out (b := a) (by omega)
  have HBG := Lib.hid hbeg
  have HM2' := Lib.hid (HM2.out.ext (inferInstance : Ext w2 w3))
  have HM3 := Lib.hid (hM3.take L2.length)
  have HR2 := Lib.hid HV2.out.rows
  have HR3 := Lib.hid hV3.rows
  rw [hlen] at ht2 HR2 HR3
  have HSM : Hid (∀ W (c d : Nat), Ext w3 W → Calls Tryz.prog 25 #[.slice B2 L2.length c, .slice B3 L2.length d] W (RetQ W (.bool true))) := Lib.hid (fun W c d e => by
    have h := ref09_Same_any (w := W) (c := c) (d := d) HM2'.out HM3.out (by omega) (by rw [List.length_take]; omega) (fun r hr => by rw [HR2.out r hr]; omega) (fun r hr => by rw [HR3.out r (List.mem_of_mem_take hr)]; omega)
    rwa [← hbeg, decide_eq_true rfl] at h)
  generalize totS m a = t1 at *
  generalize totS m b = t2 at *
  clear hbeg hM3 hV3 HBG HM2' HM3 HM2 HV2
  go_wp2_with (first
    | (go_at_call 25; refine (HSM.out _ _ _ inferInstance).mono ?_; rintro e w4 ⟨rfl, nq, rfl⟩)
    | (go_at_call 26; refine awake11_any.mono ?_; rintro e w5 ⟨rfl, hs5⟩))
  go_ret
  exact ⟨rfl, Step.of _ _⟩
end Go.Proofs.YtjehjkipcaohpaaGreat

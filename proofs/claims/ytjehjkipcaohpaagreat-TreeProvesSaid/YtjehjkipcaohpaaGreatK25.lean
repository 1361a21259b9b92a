/-
  Contracts of functions of the program, joined: Tr18, Sm12, Prov12. No statement of the seat is proved here.
-/
import Derived.Test.YtjehjkipcaohpaaGreatK23
import Derived.Test.YtjehjkipcaohpaaGreatK19
import Derived.BigQuiet
set_option linter.unusedVariables false
set_option linter.unusedSimpArgs false
set_option linter.constructorNameAsVariable false
namespace Go.Proofs.YtjehjkipcaohpaaGreat
open Go.RowKit
open La
set_option maxHeartbeats 1000000 in
theorem intervals_one {w0 w:World} {A:Option Addr} {c:Nat} {a bound:Int} (h:Mat64 w0 A [[a]]) (h1:1≤a) (h2:a<65536) (hb0:0≤bound) (hb1:bound<4611686018427387904) [hx:Ext w0 w]:
  Calls Tryz.prog 70 #[.slice A 1 c,.int .i64 bound] w (RetIv w [(-((isq (bound / a).toNat:Nat):Int),((isq (bound / a).toNat:Nat):Int))]):=by
 obtain ⟨b,o,B,c1,rfl,e1,f1,f2,f3,f4⟩:=h.at_ (i:=0) (r:=[a]) rfl
 obtain ⟨b2,o2,x,rfl,ha,g1,g2⟩:=f1.at0 (by simp)
 obtain rfl:a=x:=by simpa using ha
 simp only [Nat.add_zero,List.length_singleton] at e1 f2
 have q0:=Int.ediv_nonneg hb0 (show 0≤a by omega)
 have q1:bound / a≤bound:=Int.ediv_le_self _ hb0
 obtain ⟨q,hq⟩:∃q:Nat,bound / a=q:=⟨(bound / a).toNat,by omega⟩
 have htd:bound.tdiv a=bound / a:=Int.tdiv_eq_ediv_of_nonneg hb0
 rw [hq] at q0 q1 htd ⊢
 rw [Int.toNat_natCast]
 have hR:=fun W=>tree_root_any (w:=W) (a:=q) (by omega)
 have HR:=Lib.hid hR
 have hrb:(isq q:Nat)≤q:=by
  have h1:=(isq_spec q).1
  rcases Nat.eq_zero_or_pos (isq q) with h |h
  ·omega
  ·have :=Nat.mul_le_mul_left (isq q) h
   omega
 obtain ⟨r,hr⟩:∃r:Nat,isq q=r:=⟨_,rfl⟩
 rw [hr] at HR hrb ⊢
 have ob:Old b w0:=⟨f4⟩
 have ob2:Old b2 w0:=⟨g2⟩
 have E1:=fun W (hh:Ext w0 W)=>(cellE w0 (w':=W) (b:=b) (o:=o)).trans e1
 have E2:=fun W (hh:Ext w0 W)=>(cellE w0 (w':=W) (b:=b2) (o:=o2)).trans g1
 have k1:=E1 w hx
 have k2:=E2 w hx
 have hw1:IntKind.i64.wrap (q:Int)=(q:Int):=IntWalk.i64_in _ (by omega)
 have hw2:IntKind.i64.wrap (-(r:Int))=-(r:Int):=IntWalk.i64_in _ (by omega)
 have ha0:(a==0)=false:=by simp;omega
 clear hR hr hq ha
 go_enter Tryz.func70,Tryz.ntmps70
 go_wp2_with (go_at_call 117;refine (HR.out _).mono ?_;rintro e w1 ⟨rfl,nq,rfl⟩)
 go_ret
 exact ⟨_,1,rfl,iv_litT _ _ _ (by omega) (by omega),by simp,by omega,Step.of _ _⟩
theorem intervals_red {w0 w:World} {A:Option Addr} {c b:Nat} {m:List (List Int)} (h:Mat64 w0 A m) (hr:isRedB m=true) (hb:(b:Int)<1073741824) (ht:totS m b≤1000000) [hx:Ext w0 w]:
  Calls Tryz.prog 70 #[.slice A m.length c,.int .i64 b] w (RetIv w (tTree m b)):=by
 have hR:=red_ok hr
 have hl:=isSmallB_len hR.small
 by_cases h1:m.length=1
 ·have hN:=hR.form.num b (by omega) hb
  have d1:=hN.d1 1 (by omega)
  have d2:=hN.d2 1 (by omega)
  rw [minorsTo_get (by omega)] at d1 d2
  have e:lastE (ent m) 1=ent m 0 0:=rfl
  rw [e] at d1 d2
  rw [tTree_one hR h1 (by omega)]
  obtain ⟨r,hmr⟩:∃r,m=[r]:=List.length_eq_one_iff.1 h1
  obtain ⟨a,hra⟩:∃a,r=[a]:=List.length_eq_one_iff.1 (by have :=isSmallB_all hR.small r (by simp [hmr]);omega)
  subst hra
  subst hmr
  exact intervals_one h d1 d2 (by omega) (by omega)
 ·have hlen:=tTree_len hR (by omega) (b:=(b:Int)) (by omega) hb
  have hbd:=tTree_bd hR (b:=(b:Int)) (by omega) hb
  have :=intervals_many (w:=w) (c:=c) (bound:=(b:Int)) h (by omega) hR.form hR.s64 (by omega) hb (by rw [treeE_top hR (by omega)];omega) (by rw [treeE_top hR (by omega)];intro p hp;have :=hbd p hp;omega)
  rwa [treeE_top hR (by omega)] at this
def RetTree (w:World) (C:List (Int×Int)) (e:Ending) (w':World):Prop:=∃A c,e= .returned (.tuple #[.slice A C.length c,.int .i64 0])∧IvT w' A C∧C.length≤c∧c≤9223372036854775807∧Step w w'
theorem Emit_red {w0 w:World} {A:Option Addr} {c b:Nat} {m:List (List Int)} {budget:Int} (h:Mat64 w0 A m) (hc:m.length≤c) (hc2:c≤9223372036854775807) (hr:isRedB m=true) (hb:(b:Int)<1073741824) (hbd:totS m b≤budget) (hbd2:budget≤1000000) [hx:Ext w0 w]:
  Calls Tryz.prog 45 #[.slice A m.length c,.int .i64 b,.int .i64 budget] w (RetTree w (tTree m b)):=by
 have hR:=red_ok hr
 have hl:=isSmallB_len hR.small
 have hst:=(steps_ok hr (b:=b) hb).1
 have h0:=totS_ge hr hb
 have hspec:=hst.spec budget (by omega) hbd2
 rw [if_pos hbd] at hspec
 have hSt:=fun W (hh:Ext w0 W)=>Steps_any (w:=W) (bound:=(b:Int)) (budget:=budget) h (by omega) hc hc2 (fun _=>hR.form)
 rw [hspec] at hSt
 have hiv:=fun W (hh:Ext w0 W)=>intervals_red (w:=W) (c:=c) h hr hb (by omega)
 obtain ⟨C,hC⟩:∃C,tTree m b=C:=⟨_,rfl⟩
 rw [hC] at hiv ⊢
 have HST:=Lib.hid hSt
 have HIV:=Lib.hid hiv
 clear hSt hiv hC hspec hst hR
 go_enter Tryz.func45,Tryz.ntmps45
 go_wp2_with (first
  |(go_at_call 49;refine (HST.out _ inferInstance).mono ?_;rintro e w1 ⟨A1,c1,rfl,hI,k1,k2,hs1⟩)
  |(go_at_call 70;refine (HIV.out _ inferInstance).mono ?_;rintro e w2 ⟨A2,c2,rfl,hI2,k3,k4,hs2⟩))
 go_ret2
 exact ⟨A2,c2,rfl,hI2,k3,k4,Step.of _ _⟩
def RetVer (w:World) (m:List (List Int)) (b:Int) (e:Ending) (w':World):Prop:=∃B d L,e= .returned (.tuple #[.slice B (List.length L) d,.int .i64 0])∧Mat64 w' B L∧L.length≤d∧d≤9223372036854775807∧VecList m b false L∧L.length≤8000∧Step w w'
theorem treeOK_red {m:List (List Int)} (hr:isRedB m=true) {b:Int} (hb0:0≤b) (hb:b<1073741824):TreeOK m b:=by
 have hR:=red_ok hr
 have hl:=isSmallB_len hR.small
 have hN:=hR.form.num b hb0 hb
 refine ⟨hR.form,hR.s64,redM_of hr,hb0,by omega,hl.1,hl.2,hN.dl,hN.ll,hN.row,hN.d1,hN.d2,hN.lam,hb0,fun k hk=>?_⟩
 have a1:=hN.d1 k (by omega)
 have a2:=hN.d2 k (by omega)
 have b1:=hN.d1 (k+1) (by omega)
 have b2:=hN.d2 (k+1) (by omega)
 have m1:vD (minorsTo m m.length) (k+1)*b≤65535*1073741823:=Int.mul_le_mul (by omega) (by omega) (by omega) (by omega)
 have m0:0≤vD (minorsTo m m.length) (k+1)*b:=Int.mul_nonneg (by omega) (by omega)
 have m2:vD (minorsTo m m.length) (k+1)*b*vD (minorsTo m m.length) k≤65535*1073741823*65535:=Int.mul_le_mul m1 (by omega) (by omega) (by omega)
 omega
theorem coll_len {m:List (List Int)} (hr:isRedB m=true) {b:Nat} (h4:m.length≤4) (hb:b+2*m.length≤12∨b≤6∨(m.length≤3∧b≤8)):(collL m b false).length≤4000:=by
 have hR:=red_ok hr
 have hl:=isSmallB_len hR.small
 have hst:=(steps_ok hr (b:=b) (by omega)).1
 have hfew:=few_steps2 hr h4 hb
 have hlast:=hst.last_le (by omega)
 have hll:=hst.last
 omega
theorem Verify_red {w0 w:World} {A B:Option Addr} {c d b:Nat} {m:List (List Int)} {C:List (Int×Int)} (h:Mat64 w0 A m) (hc:m.length≤c) (hc2:c≤9223372036854775807) (hr:isRedB m=true) (h4:m.length≤4) (hb:b+2*m.length≤12∨b≤6∨(m.length≤3∧b≤8)) (hC:IvV w0 B C) (hlen:C.length≤1099511627776) [hx:Ext w0 w]:
  Calls Tryz.prog 42 #[.slice A m.length c,.int .i64 b,.slice B C.length d] w fun e w'=>if C=tTree m b then RetVer w m b e w' else RetVal w (.tuple #[.slice none 0 0,.int .i64 10]) e w':=by
 have hR:=red_ok hr
 have hl:=isSmallB_len hR.small
 have hb0:(0:Int)≤b:=by omega
 have hb1:(b:Int)<1073741824:=by omega
 have hiff:=treeR_iff hR hb0 hb1 C
 have hcl:=coll_len hr h4 hb
 have htl:=tree_len hR hb0
 have htc:tC m b (m.length-1) [] []=tV m b (m.length-1) []:=by
  rw [tC_take _ _ _ _ _ (by simp),List.nil_append,List.take_of_length_le (by omega)]
 rw [htc] at hiff
 have hv:∀l,treeR m b C=some l→l.length≤4096→(∀x∈l,VecOK m x)∧(l.map canonL).Nodup:=fun l hl _=>by
  obtain ⟨-,rfl⟩:=(hiff l).1 hl
  refine ⟨fun x hx=>?_,by rw [tree_canon hR hb0];exact (nodup_tV _ _ _).1⟩
  obtain ⟨q1,q2,q3⟩:=(mem_tree hR hb0 x).1 hx
  have q4:=inRange_of (coord_small hR hb0 hb1 x q1 q3)
  refine ⟨by simp [fitsB,q1,q4],?_,?_⟩
  ·have :=nrm_nonneg hR x q1
   simp only [dotB,decide_eq_true_eq]
   omega
  ·simp only [canonB,q4,Bool.true_and,Bool.not_eq_true',decide_eq_false_iff_not]
   omega
 refine (Verify_any (w:=w) (c:=c) (d:=d) h hc hc2 (treeOK_red hr hb0 hb1) hC hlen hv).mono ?_
 intro e w' hp
 by_cases hCt:C=tTree m b
 ·rw [if_pos hCt]
  rw [(hiff (tV m b (m.length-1) [])).2 ⟨hCt,rfl⟩] at hp
  simp only at hp
  rw [if_neg (by omega)] at hp
  obtain ⟨X,d2,L,he,hM,k1,k2,p1,p2,hs⟩:=hp
  have hlL:=p1.length_eq
  rw [List.length_map] at hlL
  exact ⟨X,d2,L,he,hM,k1,k2,tree_vecList hR hb0 p1 p2,by omega,hs⟩
 ·rw [if_neg hCt]
  have :treeR m b C=none:=by
   cases hT:treeR m b C with
   |none=>rfl
   |some l=>exact absurd ((hiff l).1 hT).1 hCt
  rw [this] at hp
  exact hp
end Go.Proofs.YtjehjkipcaohpaaGreat
namespace Go.Proofs.YtjehjkipcaohpaaGreat
open Go.RowKit
set_option maxHeartbeats 4000000 in
theorem rsmall12_ok {w:World} {dim kind bound:Int} {NA:Option Addr} {l:List Int} {nc:Nat} {v3:Value} {te:TypeId} (hN:Ints w NA te .i8 l) (h8:I8 l) (hl:l.length≤9223372036854775807) (hd0:0≤dim) (hd1:dim<256) (hk0:0≤kind) (hk1:kind<256) (hb0:0≤bound) (hb1:bound<256):
  Calls Tryz.prog 40 #[.agg #[.int .u8 dim,.int .u8 kind,.slice NA l.length nc,v3],.int .u8 bound] w (RetSmall w (1+(dim%4).toNat) bound):=by
 have HG:Hid (∀W,Ext w W→Calls Tryz.prog 27 #[.agg #[.int .u8 dim,.int .u8 kind,.slice NA l.length nc,v3],.int .i64 4] W (RetLF W (1+(dim%4).toNat))):=Lib.hid (fun W e=>rForm_ok (most:=4) (hN.ext e) h8 hl hd0 hd1 hk0 hk1 (by omega) (by omega))
 have hn4:1+(dim%4).toNat≤4:=by omega
 clear hN h8
 generalize 1+(dim%4).toNat=n at*
 have e1:IntKind.i64.wrap (2*(n:Int))=2*(n:Int):=IntWalk.i64_in _ (by omega)
 have e2:IntKind.i64.wrap (13-2*(n:Int))=13-2*(n:Int):=IntWalk.i64_in _ (by omega)
 have e3:((13-2*(n:Int))==0)=false:=by simp;omega
 have e4:bound.tmod (13-2*(n:Int))=bound%(13-2*(n:Int)):=Int.tmod_eq_emod_of_nonneg hb0
 have e5:IntKind.i64.wrap bound=bound:=IntWalk.i64_in _ (by omega)
 have e6:=Int.emod_nonneg bound (show 13-2*(n:Int)≠0 by omega)
 have e7:=Int.emod_lt_of_pos bound (show 0<13-2*(n:Int) by omega)
 have e8:IntKind.i64.wrap (bound%(13-2*(n:Int)))=bound%(13-2*(n:Int)):=IntWalk.i64_in _ (by omega)
 go_enter Tryz.func40,Tryz.ntmps40
 go_wp2_with (go_at_call 27;refine (HG.out _ inferInstance).mono ?_;rintro e w1 ⟨a,hh,A1,c1,rfl,hGm,hLL,hlen,hRel,hM3,hc1,hc2,hs3⟩)
 have HM:=Lib.hid hM3
 clear hM3
 go_quiet (fail)
 go_wp2_with fail
 go_ret2
 exact ⟨a,hh,A1,c1,rfl,hGm,hLL,hlen,hRel,HM.out.ext inferInstance,hc1,hc2,Step.of _ _⟩
end Go.Proofs.YtjehjkipcaohpaaGreat
namespace Go.Proofs.YtjehjkipcaohpaaGreat
open Go.RowKit
open La
theorem tTree_ne (m:List (List Int)) (b:Int):1≤(tTree m b).length:=by
 unfold tTree
 cases m.length-1<;>simp [tE]
theorem tTree_few {m:List (List Int)} (hr:isRedB m=true) {b:Nat} (h4:m.length≤4) (hb:b+2*m.length≤12∨b≤6∨(m.length≤3∧b≤8)):(tTree m b).length≤8001:=by
 have hR:=red_ok hr
 have hl:=isSmallB_len hR.small
 by_cases h1:m.length=1
 ·rw [tTree_one hR h1 (by omega)];simp
 ·have :=tTree_len hR (by omega) (b:=(b:Int)) (by omega) (by omega)
  have :=few_steps2 hr h4 hb
  omega
set_option maxHeartbeats 4000000 in
theorem TreeProves_any {w:World} {dim kind bound:Int} {NA:Option Addr} {l:List Int} {nc:Nat} {v3:Value} {te:TypeId} (hN:Ints w NA te .i8 l) (h8:I8 l) (hl:l.length≤9223372036854775807) (hd0:0≤dim) (hd1:dim<256) (hk0:0≤kind) (hk1:kind<256) (hb0:0≤bound) (hb1:bound<256):
  Calls Tryz.prog 21 #[.agg #[.int .u8 dim,.int .u8 kind,.slice NA l.length nc,v3],.int .u8 bound] w (RetVal w (.bool true)):=by
 have HG:Hid (∀W,Ext w W→Calls Tryz.prog 40 #[.agg #[.int .u8 dim,.int .u8 kind,.slice NA l.length nc,v3],.int .u8 bound] W (RetSmall W (1+(dim%4).toNat) bound)):=Lib.hid (fun W e=>rsmall12_ok (hN.ext e) h8 hl hd0 hd1 hk0 hk1 hb0 hb1)
 have hn1:1≤1+(dim%4).toNat:=by omega
 have hn4:1+(dim%4).toNat≤4:=by omega
 clear hN h8
 generalize 1+(dim%4).toNat=n at*
 have e6:=Int.emod_nonneg bound (show 13-2*(n:Int)≠0 by omega)
 have e7:=Int.emod_lt_of_pos bound (show 0<13-2*(n:Int) by omega)
 unfold RetSmall at HG
 obtain ⟨b,hb⟩:∃b:Nat,bound%(13-2*(n:Int))=b:=⟨(bound%(13-2*(n:Int))).toNat,by omega⟩
 rw [hb] at HG e6 e7
 have HV:Hid (∀(m:List (List Int)) (W0 W:World) A c,isRedB m=true→m.length=n→Mat64 W0 A m→n≤c→c≤9223372036854775807→Ext W0 W→Calls Tryz.prog 23 #[.slice A n c,.int .i64 b,.int .i64 20000] W (RetVL W m b)):=Lib.hid (fun m W0 W A c hr hmn hM h1 h2 e=>by
  have :=few_steps2 hr (b:=b) (by omega) (by omega)
  have :=Vectors_red (w:=W) (c:=c) (b:=b) (budget:=20000) hM (by omega) h2 hr (by omega) (by omega) (by omega) (by omega)
  rwa [hmn] at this)
 have HE:Hid (∀(m:List (List Int)) (W0 W:World) A c,isRedB m=true→m.length=n→Mat64 W0 A m→n≤c→c≤9223372036854775807→Ext W0 W→Calls Tryz.prog 45 #[.slice A n c,.int .i64 b,.int .i64 20000] W (RetTree W (tTree m b))):=Lib.hid (fun m W0 W A c hr hmn hM h1 h2 e=>by
  have :=few_steps2 hr (b:=b) (by omega) (by omega)
  have :=Emit_red (w:=W) (c:=c) (b:=b) (budget:=20000) hM (by omega) h2 hr (by omega) (by omega) (by omega)
  rwa [hmn] at this)
 have HT:Hid (∀(m:List (List Int)) (W0 W:World) A B c d,isRedB m=true→m.length=n→Mat64 W0 A m→n≤c→c≤9223372036854775807→IvV W B (tTree m b)→Ext W0 W→Calls Tryz.prog 42 #[.slice A n c,.int .i64 b,.slice B (tTree m b).length d] W (RetVer W m b)):=Lib.hid (fun m W0 W A B c d hr hmn hM h1 h2 hI e=>by
  have :=tTree_few hr (b:=b) (by omega) (by omega)
  have :=Verify_red (w0:=W) (w:=W) (c:=c) (d:=d) (b:=b) (hM.ext e) (by omega) h2 hr (by omega) (by omega) hI (by omega)
  rw [hmn] at this
  simp only [if_pos] at this
  exact this)
 clear hb
 go_enter Tryz.func21,Tryz.ntmps21
 go_upto_region 5 with (first
  |(go_at_call 40;refine (HG.out _ inferInstance).mono ?_;rintro e w1 ⟨g,m,A1,c1,rfl,-,hLL,hlen,-,hM1,hc1,hc2,hs1⟩;have hred:=hLL.red;have HM:=Lib.hid hM1;have HR:=Lib.hid hred;have ht1:=tTree_ne m b;clear hM1 hred hLL)
  |(go_at_call 45;refine (HE.out _ _ _ _ _ HR.out hlen HM.out hc1 hc2 inferInstance).mono ?_;rintro e w2 ⟨B2,d2,rfl,hI2,h21,h22,hs2⟩;have HI2:=Lib.hid hI2;clear hI2)
  |(go_at_call 42;refine (HT.out _ _ _ _ _ _ _ HR.out hlen HM.out hc1 hc2 (HI2.out.toV.ext inferInstance) inferInstance).mono ?_;rintro e w3 ⟨B3,d3,L3,rfl,hM3,h31,h32,hV3,h33,hs3⟩;have HM3:=Lib.hid hM3;have HV3:=Lib.hid hV3;clear hM3 hV3)
  |(go_at_call 23;refine (HV.out _ _ _ _ _ HR.out hlen HM.out hc1 hc2 inferInstance).mono ?_;rintro e w4 ⟨B4,d4,L4,rfl,hM4,h41,h42,hV4,h43,hs4⟩;have HM4:=Lib.hid hM4;have HV4:=Lib.hid hV4;clear hM4 hV4))
 have hLe:L3=L4:=VecList.unique HV3.out HV4.out
 subst hLe
 have HRW:=Lib.hid HV3.out.rows
 rw [hlen] at HRW
 have HSM:Hid (∀W (c d:Nat),Ext w4 W→Calls Tryz.prog 25 #[.slice B3 L3.length c,.slice B4 L3.length d] W (RetQ W (.bool true))):=Lib.hid (fun W c d e=>by
  have h:=ref09_Same_any (w:=W) (c:=c) (d:=d) (HM3.out.ext (inferInstance:Ext w3 w4)) HM4.out (by omega) (by omega) (fun r hr=>by rw [HRW.out r hr];omega) (fun r hr=>by rw [HRW.out r hr];omega)
  rwa [decide_eq_true rfl] at h)
 generalize (tTree m b).length=tl at*
 generalize totS m b=t1 at*
 clear HM3 HM4 HV3 HV4 HT HE HV HG
 go_wp2_with (first
  |(go_at_call 25;refine (HSM.out _ _ _ inferInstance).mono ?_;rintro e w5 ⟨rfl,nq,rfl⟩)
  |(go_at_call 43;refine awake12_any.mono ?_;rintro e w6 ⟨rfl,hs6⟩))
 go_ret
 exact ⟨rfl,Step.of _ _⟩
end Go.Proofs.YtjehjkipcaohpaaGreat

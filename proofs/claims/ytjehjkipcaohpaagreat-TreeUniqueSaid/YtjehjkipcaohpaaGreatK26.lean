/-
  Contracts of functions of the program, joined: Cuts12, Lat3. No statement of the seat is proved here.
-/
import Derived.Test.YtjehjkipcaohpaaGreatK25
import Derived.Test.YtjehjkipcaohpaaGreatK24
import Derived.Test.YtjehjkipcaohpaaGreatK20
set_option linter.unusedVariables false
set_option linter.unusedSimpArgs false
set_option linter.constructorNameAsVariable false
namespace Go.Proofs.YtjehjkipcaohpaaGreat
open Go.RowKit
open La
theorem IvV.take {w:World} {A:Option Addr} {C:List (Int×Int)} (h:IvV w A C) (k:Nat):IvV w A (C.take k):=by
 obtain ⟨⟨te,h1⟩,h2⟩:=h
 refine ⟨⟨te,fun h0=>?_⟩,fun p hp=>h2 p (List.mem_of_mem_take hp)⟩
 have hpre:∀(j:Nat) (u:Value),((C.take k).flatMap fun p=>[Value.int .i64 p.1,Value.int .i64 p.2])[j]? =some u→(C.flatMap fun p=>[Value.int .i64 p.1,Value.int .i64 p.2])[j]? =some u:=fun j u hu=>by
  have e:C.flatMap (fun p=>[Value.int .i64 p.1,Value.int .i64 p.2])=(C.take k).flatMap (fun p=>[Value.int .i64 p.1,Value.int .i64 p.2])++(C.drop k).flatMap (fun p=>[Value.int .i64 p.1,Value.int .i64 p.2]):=by
   rw [←List.flatMap_append,List.take_append_drop]
  rw [e,List.getElem?_append_left (List.getElem?_eq_some_iff.1 hu).1]
  exact hu
 obtain ⟨u,hu⟩:∃u,((C.take k).flatMap fun p=>[Value.int .i64 p.1,Value.int .i64 p.2])[0]? =some u:=⟨_,List.getElem?_eq_getElem h0⟩
 obtain ⟨b,o,cs,fr,e1,e2,e3⟩:=h1 (List.getElem?_eq_some_iff.1 (hpre 0 u hu)).1
 exact ⟨b,o,cs,fr,e1,e2,fun j u hu=>e3 j u (hpre j u hu)⟩
set_option maxHeartbeats 4000000 in
theorem TreeUnique_any {w:World} {dim kind bound:Int} {NA:Option Addr} {l:List Int} {nc:Nat} {v3:Value} {te:TypeId} {CA:Option Addr} {C:List (Int×Int)} {cc:Nat} (hN:Ints w NA te .i8 l) (h8:I8 l) (hl:l.length≤9223372036854775807) (hd0:0≤dim) (hd1:dim<256) (hk0:0≤kind) (hk1:kind<256) (hb0:0≤bound) (hb1:bound<256) (hC:IvV w CA C) (hcc:C.length≤cc) (hcc2:cc≤9223372036854775807):
  Calls Tryz.prog 15 #[.agg #[.int .u8 dim,.int .u8 kind,.slice NA l.length nc,v3],.int .u8 bound,.slice CA C.length cc] w (RetVal w (.bool true)):=by
 by_cases hlen:C.length≤200
 ·have HG:Hid (∀W,Ext w W→Calls Tryz.prog 40 #[.agg #[.int .u8 dim,.int .u8 kind,.slice NA l.length nc,v3],.int .u8 bound] W (RetSmall W (1+(dim%4).toNat) bound)):=Lib.hid (fun W e=>rsmall12_ok (hN.ext e) h8 hl hd0 hd1 hk0 hk1 hb0 hb1)
  have hn1:1≤1+(dim%4).toNat:=by omega
  have hn4:1+(dim%4).toNat≤4:=by omega
  clear hN h8
  generalize 1+(dim%4).toNat=n at*
  have e6:=Int.emod_nonneg bound (show 13-2*(n:Int)≠0 by omega)
  have e7:=Int.emod_lt_of_pos bound (show 0<13-2*(n:Int) by omega)
  unfold RetSmall at HG
  obtain ⟨b,hb⟩:∃b:Nat,bound%(13-2*(n:Int))=b:=⟨(bound%(13-2*(n:Int))).toNat,by omega⟩
  rw [hb] at HG e6 e7
  have HE:Hid (∀(m:List (List Int)) (W0 W:World) A c,isRedB m=true→m.length=n→Mat64 W0 A m→n≤c→c≤9223372036854775807→Ext W0 W→Calls Tryz.prog 45 #[.slice A n c,.int .i64 b,.int .i64 20000] W (RetTree W (tTree m b))):=Lib.hid (fun m W0 W A c hr hmn hM h1 h2 e=>by
   have :=few_steps2 hr (b:=b) (by omega) (by omega)
   have :=Emit_red (w:=W) (c:=c) (b:=b) (budget:=20000) hM (by omega) h2 hr (by omega) (by omega) (by omega)
   rwa [hmn] at this)
  have HT:Hid (∀(m:List (List Int)) (W0 W:World) A B c d,isRedB m=true→m.length=n→Mat64 W0 A m→n≤c→c≤9223372036854775807→IvV W B (tTree m b)→Ext W0 W→Calls Tryz.prog 42 #[.slice A n c,.int .i64 b,.slice B (tTree m b).length d] W (fun e w'=>∃B d k,e= .returned (.tuple #[.slice B k d,.int .i64 0])∧Step W w')):=Lib.hid (fun m W0 W A B c d hr hmn hM h1 h2 hI e=>by
   have :=tTree_few hr (b:=b) (by omega) (by omega)
   have :=Verify_red (w0:=W) (w:=W) (c:=c) (d:=d) (b:=b) (hM.ext e) (by omega) h2 hr (by omega) (by omega) hI (by omega)
   rw [hmn] at this
   simp only [if_pos] at this
   refine this.mono ?_
   rintro e' w' ⟨B',d',L,he,-,-,-,-,-,hs⟩
   exact ⟨B',d',_,he,hs⟩)
  have HU:Hid (∀(m:List (List Int)) (W0 W:World) A c,isRedB m=true→m.length=n→Mat64 W0 A m→n≤c→c≤9223372036854775807→Ext w W→Ext W0 W→Calls Tryz.prog 42 #[.slice A n c,.int .i64 b,.slice CA C.length cc] W (fun e w'=>∃B d k v,e= .returned (.tuple #[.slice B k d,.int .i64 v])∧(v==0)=decide (tTree m b=C)∧Step W w')):=Lib.hid (fun m W0 W A c hr hmn hM h1 h2 e0 e=>by
   have :=Verify_red (w0:=W) (w:=W) (c:=c) (d:=cc) (b:=b) (hM.ext e) (by omega) h2 hr (by omega) (by omega) (hC.ext e0) (by omega)
   rw [hmn] at this
   refine this.mono ?_
   intro e' w' hp
   by_cases ht:C=tTree m b
   ·rw [if_pos ht] at hp
    obtain ⟨B',d',L,he,-,-,-,-,-,hs⟩:=hp
    exact ⟨B',d',_,0,he,by rw [decide_eq_true ht.symm];rfl,hs⟩
   ·rw [if_neg ht] at hp
    exact ⟨none,0,0,10,hp.1,by rw [decide_eq_false (fun h=>ht h.symm)];rfl,hp.2⟩)
  have HS:Hid (∀(m:List (List Int)) (W:World) B c,IvV W B (tTree m b)→(tTree m b).length≤8001→Ext w W→Calls Tryz.prog 46 #[.slice B (tTree m b).length c,.slice CA C.length cc] W (RetQ W (.bool (decide (tTree m b=C))))):=Lib.hid (fun m W B c hI hle e=>SameIntervals_any (w0:=W) hI (hC.ext e) (by omega))
  have hdl:decide (200<(C.length:Int))=false:=by simp;omega
  clear hb hC
  generalize C.length=cl at*
  go_enter Tryz.func15,Tryz.ntmps15
  go_upto_region 5 with (first
   |(go_at_call 40;refine (HG.out _ inferInstance).mono ?_;rintro e w1 ⟨g,m,A1,c1,rfl,-,hLL,hln,-,hM1,hc1,hc2,hs1⟩;have hred:=hLL.red;have HM:=Lib.hid hM1;have HR:=Lib.hid hred;have ht1:=tTree_few hred (b:=b) (by omega) (by omega);clear hM1 hred hLL)
   |(go_at_call 45;refine (HE.out _ _ _ _ _ HR.out hln HM.out hc1 hc2 inferInstance).mono ?_;rintro e w2 ⟨B2,d2,rfl,hI2,h21,h22,hs2⟩;have HI2:=Lib.hid hI2.toV;clear hI2))
  go_upto_region 6 with (go_at_call 42;refine (HU.out _ _ _ _ _ HR.out hln HM.out hc1 hc2 inferInstance inferInstance).mono ?_;rintro e w3 ⟨B3,d3,k3,v3',rfl,hv3,hs3⟩)
  go_upto_region 7 with (go_at_call 42;refine (HT.out _ _ _ _ _ _ _ HR.out hln HM.out hc1 hc2 (HI2.out.ext inferInstance) inferInstance).mono ?_;rintro e w4 ⟨B4,d4,k4,rfl,hs4⟩)
  have HSM:Hid (∀W,Ext w4 W→Calls Tryz.prog 46 #[.slice B2 (tTree m b).length d2,.slice CA cl cc] W (RetQ W (.bool (decide (tTree m b=C))))):=Lib.hid (fun W e=>have :Ext w W:=(inferInstance:Ext w w4).trans e;HS.out m W B2 d2 (HI2.out.ext ((inferInstance:Ext w2 w4).trans e)) ht1 this)
  generalize decide (tTree m b=C)=q at*
  generalize (tTree m b).length=tl at*
  have hqq:(q==q)=true:=by simp
  clear HG HE HT HU HS
  go_wp2_with (first
   |(go_at_call 46;refine (HSM.out _ inferInstance).mono ?_;rintro e w5 ⟨rfl,nq,rfl⟩)
   |(go_at_call 43;refine awake12_any.mono ?_;rintro e w6 ⟨rfl,hs6⟩))
  go_ret
  exact ⟨rfl,Step.of _ _⟩
 ·have hdl:decide (200<(C.length:Int))=true:=by simp;omega
  clear hlen hC hN h8
  generalize C.length=cl at*
  go_enter Tryz.func15,Tryz.ntmps15
  go_wp2_with (go_at_call 43;refine awake12_any.mono ?_;rintro e w6 ⟨rfl,hs6⟩)
  go_ret
  exact ⟨rfl,Step.of _ _⟩
end Go.Proofs.YtjehjkipcaohpaaGreat
namespace Go.Proofs.YtjehjkipcaohpaaGreat
open Go.ChangeShapes Go.WideShapes Go.ChangeAt Go.RowKit
structure IvA (W:World) (v:Value) where
 A:Option Addr
 C:List (Int×Int)
 c:Nat
 eq:v= .slice A C.length c
 iv:IvV W A C
 len:C.length≤c
 cap:c≤9223372036854775807
structure IvO (W:World) (v:Value) where
 lo:Int
 hi:Int
 eq:v= .agg #[.int .i64 lo,.int .i64 hi]
 lob:-9223372036854775808≤lo∧lo≤9223372036854775807
 hib:-9223372036854775808≤hi∧hi≤9223372036854775807
set_option maxRecDepth 100000 in
theorem open_ivA {H:Type} {enc:TypeId×Value→H} {W:World} {r:Reach} {b0:Nat} {v:Value} {d:DataW H} {p:List MemPlace} (hv:Value.okWide Tryz.prog W r b0 58 v) (h:DataW.Trod enc Tryz.prog W 0 (fun _=>true) true 58 v d p):
  Nonempty (IvA W v)∧∀(W':World) (sp:Nat→Bool),Below W.heap.size W W'→(∀q∈p,sp q.block=true)→DataW.Trod enc Tryz.prog W' 0 sp true 58 v d p:=by
 obtain ⟨A,c,C,e,h1,h2,h3⟩:=open_intervals hv h
 exact ⟨⟨⟨A,C,c,e,h1,h2,h3⟩⟩,fun W' sp hb hs=>arg_stay c_laid (by kernel_rfl) (of_decide_eq_true (by kernel_rfl)) h hb hs⟩
set_option maxRecDepth 100000 in
theorem open_ivO {H:Type} {enc:TypeId×Value→H} {W:World} {r:Reach} {b0:Nat} {v:Value} {d:DataW H} {p:List MemPlace} (hv:Value.okWide Tryz.prog W r b0 64 v) (h:DataW.Trod enc Tryz.prog W 0 (fun _=>true) true 64 v d p):
  Nonempty (IvO W v)∧∀(W':World) (sp:Nat→Bool),Below W.heap.size W W'→(∀q∈p,sp q.block=true)→DataW.Trod enc Tryz.prog W' 0 sp true 64 v d p:=by
 obtain ⟨⟨lo,hi,e,h1,h2⟩,hs⟩:=open_interval hv h
 exact ⟨⟨⟨lo,hi,e,h1,h2⟩⟩,fun W' sp _ _=>hs W' sp⟩
end Go.Proofs.YtjehjkipcaohpaaGreat

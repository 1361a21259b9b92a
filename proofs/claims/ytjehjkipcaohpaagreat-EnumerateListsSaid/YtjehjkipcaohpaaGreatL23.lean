/-
  Contracts of functions of the program, joined: Lst11. No statement of the seat is proved here.
-/
import Derived.Test.YtjehjkipcaohpaaGreatJ20
import Derived.Test.YtjehjkipcaohpaaGreatL22
set_option linter.unusedVariables false
set_option linter.unusedSimpArgs false
set_option linter.constructorNameAsVariable false
namespace Go.Proofs.YtjehjkipcaohpaaGreat
open Go.RowKit
open La
def itemOf (m:List (List Int)) (L:List (List Int)) (k:Nat):Int×List Int:=if k=0 then (0,[]) else (nrm m (L.getD (k-1) []),L.getD (k-1) [])
theorem itemOf_succ {m L:List (List Int)} {k:Nat} {y:List Int} (h:L[k]? =some y):itemOf m L (k+1)=(nrm m y,y):=by
 simp [itemOf,List.getD,h]
theorem itemOf_less {m:List (List Int)} (hr:RedOK m) {b:Int} (hb:0≤b) (hb1:b<1073741824) {L:List (List Int)} (h:VecList m b false L) {k:Nat} {y:List Int} (hk:L[k]? =some y):lessP (itemOf m L k) (nrm m y,y)=true:=by
 obtain ⟨-,-,-,-,-,-,h1,h2⟩:=vecList_item hr hb hb1 h hk
 cases k with
 |zero=>exact h1 rfl
 |succ k=>
  obtain ⟨z,hz⟩:∃z,L[k]? =some z:=⟨L[k]'(by have :=(List.getElem?_eq_some_iff.1 hk).1;omega),by simp⟩
  rw [itemOf_succ hz]
  exact h2 k z rfl hz
set_option maxHeartbeats 4000000 in
theorem EnumerateLists_any {w:World} {dim kind bound:Int} {NA:Option Addr} {l:List Int} {nc:Nat} {v3:Value} {te:TypeId} (hN:Ints w NA te .i8 l) (h8:I8 l) (hl:l.length≤9223372036854775807) (hd0:0≤dim) (hd1:dim<256) (hk0:0≤kind) (hk1:kind<256) (hb0:0≤bound) (hb1:bound<256):
  Calls Tryz.prog 5 #[.agg #[.int .u8 dim,.int .u8 kind,.slice NA l.length nc,v3],.int .u8 bound] w (RetVal w (.bool true)):=by
 have HG:Hid (∀W,Ext w W→Calls Tryz.prog 22 #[.agg #[.int .u8 dim,.int .u8 kind,.slice NA l.length nc,v3],.int .u8 bound] W (RetSmall W (1+(dim%4).toNat) bound)):=Lib.hid (fun W e=>rsmall11_ok (hN.ext e) h8 hl hd0 hd1 hk0 hk1 hb0 hb1)
 have hn1:1≤1+(dim%4).toNat:=by omega
 have hn4:1+(dim%4).toNat≤4:=by omega
 clear hN h8
 generalize 1+(dim%4).toNat=n at*
 have e6:=Int.emod_nonneg bound (show 13-2*(n:Int)≠0 by omega)
 have e7:=Int.emod_lt_of_pos bound (show 0<13-2*(n:Int) by omega)
 unfold RetSmall at HG
 obtain ⟨b,hb⟩:∃b:Nat,bound%(13-2*(n:Int))=b:=⟨(bound%(13-2*(n:Int))).toNat,by omega⟩
 rw [hb] at HG e6 e7
 have HV:Hid (∀(m:List (List Int)) (W0 W:World) A c,isRedB m=true→m.length=n→Mat64 W0 A m→n≤c→c≤9223372036854775807→Ext W0 W→Calls Tryz.prog 23 #[.slice A n c,.int .i64 b,.int .i64 20000] W (RetVL W m b)):=Lib.hid (fun m W0 W A c hr hmn hM h1 h2 e=>by
  have :=few_steps2 hr (b:=b) (by omega) (by omega)
  have :=Vectors_red (w:=W) (c:=c) (b:=b) (budget:=20000) hM (by omega) h2 hr (by omega) (by omega) (by omega) (by omega)
  rwa [hmn] at this)
 clear hb
 go_enter Tryz.func5,Tryz.ntmps5
 go_upto_region 3 with (first
  |(go_at_call 22;refine (HG.out _ inferInstance).mono ?_;rintro e w1 ⟨g,m,A1,c1,rfl,-,hLL,hlen,-,hM1,hc1,hc2,hs1⟩;have hred:=hLL.red;have HM:=Lib.hid hM1;have HR:=Lib.hid hred;have HLL:=Lib.hid hLL;clear hM1 hred hLL)
  |(go_at_call 23;refine (HV.out _ _ _ _ _ HR.out hlen HM.out hc1 hc2 inferInstance).mono ?_;rintro e w2 ⟨B2,d2,L2,rfl,hM2,h21,h22,hV2,h23,hs2⟩;have HM2:=Lib.hid hM2;have HV2:=Lib.hid hV2;clear hM2 hV2))
 have ht:=steps_len HR.out (b:=b) (by omega) HV2.out
 have ht2:=few_steps2 HR.out (b:=b) (by omega) (by omega)
 rw [hlen] at ht
 have HIT:=Lib.hid (fun (k:Nat) (y:List Int) (hk:L2[k]? =some y)=>vecList_item (red_ok HR.out) (by omega) (by omega) HV2.out hk)
 have HLE:=Lib.hid (fun (k:Nat) (y:List Int) (hk:L2[k]? =some y)=>itemOf_less (red_ok HR.out) (by omega) (by omega) HV2.out hk)
 have HLN:=Lib.hid hlen
 obtain ⟨ln,hln⟩:∃ln,ln=L2.length:=⟨_,rfl⟩
 rw [←hln] at ht h21 h23 ⊢
 have HL:=Lib.hid hln
 generalize totS m b=t1 at*
 have q1:IntKind.i64.wrap (2*(ln:Int))=2*(ln:Int):=IntWalk.i64_in _ (by omega)
 have q2:IntKind.i64.wrap (2*(ln:Int)+n)=2*(ln:Int)+n:=IntWalk.i64_in _ (by omega)
 have q3:decide (t1<2*(ln:Int)+n)=false:=by simp;omega
 clear hln HG HV
 have hx12:Ext w1 w2:=inferInstance
 have hxw2:Ext w w2:=inferInstance
 go_wp2_with fail
 go_loopw [12,13,14,15,16,45] (fun _ _ _ _ _ i wr=>∃(k:Nat) (X:Option Addr) (cx:Nat),k≤ln∧i= .int .i64 k∧Hid (wr.heap[w2.heap.size]? =some (.cells #[.int .i64 (itemOf m L2 k).1,.slice X (itemOf m L2 k).2.length cx] 45 (0,0)))∧Hid (Ints w2 X 2 .i64 (itemOf m L2 k).2)∧Ext w2 wr) (fun _ _ _ _ _ i _=>ln-(intOf i).toNat)
 case atStart=>exact ⟨0,none,0,by omega,rfl,Lib.hid BlkAt.eq,Lib.hid Ints.nil,inferInstance⟩
 case round=>
  obtain ⟨k,X,cx,hk,rfl,HB,HX,hxr⟩:=hrel
  have hx1r:Ext w1 wr:=hx12.trans hxr
  by_cases hlt:k<ln
  ·obtain ⟨y,hy⟩:∃y,L2[k]? =some y:=⟨_,List.getElem?_eq_getElem (by rw [←HL.out];exact hlt)⟩
   obtain ⟨y1,y2,y3,y4,y5,y6,-,-⟩:=HIT.out k y hy
   have hless:=HLE.out k y hy
   obtain ⟨by1,oy1,By,dy,rfl,g1,g2,g4,g5,g3⟩:=(HM2.out.ext hxr).at_ hy
   have g2':Ints w2 By 2 .i64 y:=by
    obtain ⟨_,_,B',d',hA,e1,e2,-,-,e3⟩:=HM2.out.at_ hy
    injection hA with hA
    injection hA with z1 z2
    subst z1 z2
    have :=(hxr.below.cell (p:=⟨by1,oy1+k,none⟩) e3).trans e1
    rw [g1] at this
    injection this with this
    injection this with z1 z2 z3
    subst z1
    exact e2
   have HI2:=Lib.hid g2'
   rw [y1] at g1
   have hyn:y.length=n:=y1.trans HLN.out
   rw [HLN.out] at g1
   have HN:Hid (∀W,Ext wr W→Calls Tryz.prog 28 #[.slice A1 n c1,.slice By n dy] W (RetVal W (.tuple #[.int .i64 (nrm m y),.bool true]))):=Lib.hid (fun W e=>by
    have :Ext w1 W:=hx1r.trans e
    have :=rNorm_ok (w:=W) (c:=c1) (d:=dy) HM.out HLL.out g2 y1 y2 (by omega)
    rwa [HLN.out] at this)
   have HCN:Hid (∀W,Ext wr W→Calls Tryz.prog 29 #[.slice By n dy] W (fun e w'=>∃B d,e= .returned (.tuple #[.slice B n d,.bool true])∧Hid (Ints w' B 2 .i64 y)∧Step W w')):=Lib.hid (fun W e=>by
    have :=rCanon_ok (w:=W) (c:=dy) g2 (by omega) y2
    rw [hyn] at this
    refine this.mono ?_
    rintro e' w' (⟨h0,-,-⟩ |⟨-,B,d,he,hI,-,-,hs⟩)
    ·exact absurd h0 y5
    ·rw [y6] at hI
     rw [hyn] at he
     exact ⟨B,d,he,Lib.hid hI,hs⟩)
   have HCM:Hid (∀(W0 W:World) (B:Option Addr) (d:Nat),Ints W0 B 2 .i64 y→Ext W0 W→Ext wr W→Calls Tryz.prog 31 #[.slice B n d,.slice By n dy] W (RetQ W (.int .i64 0))):=Lib.hid (fun W0 W B d hI e1 e2=>by
    have :=ref09_Compare_any (w0:=W) (w:=W) (c:=d) (d:=dy) (hI.ext e1) (g2.ext e2) (by omega) (by omega)
    rwa [lexI_self,hyn] at this)
   have HLS:Hid (∀W,Ext wr W→Calls Tryz.prog 32 #[.agg #[.int .i64 (itemOf m L2 k).1,.slice X (itemOf m L2 k).2.length cx],.agg #[.int .i64 (nrm m y),.slice By n dy]] W (RetVal W (.bool true))):=Lib.hid (fun W e=>by
    have hxl:(itemOf m L2 k).2.length≤1099511627776:=by
     unfold itemOf
     split
     ·simp
     ·rw [List.getD_eq_getElem?_getD]
      cases h:L2[k-1]? with
      |none=>simp
      |some z=>have :=(HIT.out _ z h).1;simp only [Option.getD_some];have :=HLN.out;omega
    have :Ext w2 W:=hxr.trans e
    have :=rLess_ok (w:=W) (a:=(itemOf m L2 k).1) (b:=nrm m y) (c:=cx) (d:=dy) HX.out g2 hxl (by omega)
    rwa [hyn,hless] at this)
   have HIS:=Lib.hid (itemOf_succ (m:=m) hy)
   have HYN:=Lib.hid hyn
   have p1:decide (nrm m y<1)=false:=by simp;omega
   have p2:decide ((b:Int)<nrm m y)=false:=by simp;omega
   obtain ⟨t1',t2',t3',t4',t5'⟩:=box_cells2 HB.out
   have ob:Old w2.heap.size wr:=⟨t5'⟩
   have HCE:=Lib.hid (And.intro t1' t2')
   have HFZ:=Lib.hid (And.intro t3' t4')
   clear hy hless y1 y2 y3 y4 y5 y6 g2 g2' hyn
   generalize (itemOf m L2 k).1=zi at*
   generalize (itemOf m L2 k).2.length=li at*
   generalize nrm m y=ny at*
   go_wp2_with (first
    |(go_at_call 28;refine (HN.out _ inferInstance).mono ?_;rintro e w3 ⟨rfl,hs3⟩)
    |(go_at_call 29;refine (HCN.out _ inferInstance).mono ?_;rintro e w4 ⟨B4,d4,rfl,hI4,hs4⟩)
    |(go_at_call 31;refine (HCM.out _ _ _ _ hI4.out inferInstance inferInstance).mono ?_;rintro e w5 ⟨rfl,nq,rfl⟩;have r1:(w4.drewN nq).cell? ⟨w2.heap.size,0,none⟩=some (.int .i64 zi):=(cellE wr).trans HCE.out.1;have r2:(w4.drewN nq).cell? ⟨w2.heap.size,1,none⟩=some (.slice X li cx):=(cellE wr).trans HCE.out.2)
    |(go_at_call 32;refine (HLS.out _ inferInstance).mono ?_;rintro e w6 ⟨rfl,hs6⟩;have hx6:Ext wr w6:=inferInstance;have fz0:w6.frozen? ⟨w2.heap.size,0,none⟩=false:=(frozenE wr).trans HFZ.out.1;have fz1:w6.frozen? ⟨w2.heap.size,1,none⟩=false:=(frozenE wr).trans HFZ.out.2))
   refine ⟨⟨k+1,By,dy,by omega,by go_num,Lib.hid ?_,Lib.hid ?_,?_⟩,by simp [intOf]<;>omega⟩
   ·rw [HIS.out]
    simp only
    rw [HYN.out]
    exact box_set2_1 (box_set2_0 (heap_of_ext hx6 HB.out))
   ·rw [HIS.out];exact HI2.out
   ·exact inferInstance
  ·have hxwr:Ext w wr:=hxw2.trans hxr
   go_wp2_with (go_at_call 26;refine awake11_any.mono ?_;rintro e w6 ⟨rfl,hs6⟩)
   go_ret
   exact ⟨rfl,Step.of _ _⟩
end Go.Proofs.YtjehjkipcaohpaaGreat

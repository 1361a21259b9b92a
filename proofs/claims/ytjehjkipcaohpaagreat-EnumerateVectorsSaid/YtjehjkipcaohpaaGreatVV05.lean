/- R11g Vx11 -/
import Derived.Test.YtjehjkipcaohpaaGreatVV04
import Derived.Test.YtjehjkipcaohpaaGreatProg
import Derived.Test.YtjehjkipcaohpaaGreatShelf
set_option maxHeartbeats 8000000
set_option linter.unusedVariables false
set_option linter.unusedSimpArgs false
set_option linter.constructorNameAsVariable false
namespace Go.Proofs.YtjehjkipcaohpaaGreat
open Go.RowKit
open La
theorem sum_take_le {l:List Int} (h:∀x∈l,0<=x) (k:Nat):(l.take k).sum<=l.sum:=by
 have :=List.take_append_drop k l
 have h2:(l.take k).sum+(l.drop k).sum=l.sum:=by rw [<-List.sum_append,this]
 have h3:0<=(l.drop k).sum:=by
  have :∀m:List Int,(∀x∈m,0<=x)->0<=m.sum:=fun m=>by
   induction m with
   |nil=>intro _;simp
   |cons a m ih=>intro hm;rw [List.sum_cons];have :=ih (fun x hx=>hm x (by simp [hx]));have :=hm a (by simp);omega
  exact this _ fun x hx=>h x (List.mem_of_mem_drop hx)
 omega
def SmRel (l:List Int) (N:Nat) (w:World) (s3 i:Value) (wr:World):Prop:=∃k:Nat,k<=N/\i= .int .i64 k/\s3= .int .i64 (l.take k).sum/\∃q,wr=w.drewN q
set_option maxRecDepth 20000 in
theorem rsum_ok {w0 w:World} {A:Option Addr} {c:Nat} {l:List Int} (hA:Ints w0 A 3 .i64 l) (hl:l.length<=1000000) (h0:∀x∈l,0<=x) (hs:l.sum<=1000000000) [hx:Ext w0 w]:
  Calls Tryz.prog 55 #[.slice A l.length c] w (RetVal w (.int .i64 l.sum)):=by
 have HA:=Lib.hid (hA.ext hx)
 obtain ⟨N,hN⟩:∃N,N=l.length:=⟨_,rfl⟩
 have HN:=Lib.hid hN
 have H0:=Lib.hid (fun k=>sum_take_le h0 k)
 have H1:Hid (∀k,0<=(l.take k).sum):=Lib.hid (fun k=>by
  have :=sum_take_le (l:=l.take k) (fun x hx=>h0 x (List.mem_of_mem_take hx)) 0
  simpa using this)
 rw [<-hN] at hl |-
 clear hA hN
 unfold RetVal
 go_enter Tryz.func55,Tryz.ntmps55
 go_wp2
 go_loopw [3,8] (fun s3 i wr=>SmRel l N w s3 i wr) (fun _ i _=>N-(intOf i).toNat)
 case atStart=>exact ⟨0,by omega,rfl,rfl,0,rfl⟩
 case round=>
  unfold SmRel at hrel
  obtain ⟨k,hk,rfl,rfl,q,rfl⟩:=hrel
  by_cases hlt:k<N
  ·obtain ⟨x,hp⟩:∃x,l[k]? =some x:=⟨_,List.getElem?_eq_getElem (by rw [<-HN.out];exact hlt)⟩
   obtain ⟨b,o,-,rfl,-⟩:=HA.out.at_ (by rw [<-HN.out];omega)
   have hc:=(ints_cell HA.out hp).1
   have HTK:=Lib.hid (sum_take_succ l k x hp)
   have hx1:IntKind.i64.wrap ((l.take k).sum+x)=(l.take (k+1)).sum:=by
    rw [<-HTK.out]
    have a1:=H0.out (k+1)
    have a2:=H1.out (k+1)
    exact IntWalk.i64_in _ (by omega)
   clear hp
   go_wp2_with fail
   exact ⟨⟨k+1,by omega,by go_num,by first |rfl |simpa using hx1,_,rfl⟩,by simp [intOf]<;>omega⟩
  ·obtain rfl:k=N:=by omega
   have htk:(l.take k).sum=l.sum:=by rw [List.take_of_length_le (by rw [<-HN.out];exact Nat.le_refl _)]
   rw [htk]
   go_wp2_with fail
   go_ret
   exact ⟨rfl,Step.of _ _⟩
def RetV10 (w:World) (m:List (List Int)) (bound budget:Int) (e:Ending) (w':World):Prop:=
 (totS m bound<=budget/\∃B d L,e= .returned (.tuple #[.slice B (List.length L) d,.int .i64 (totS m bound),.int .i64 0])/\Mat64 w' B L/\L.length<=d/\d<=9223372036854775807/\VecList m bound false L/\Step w w')∨(budget<totS m bound/\e= .returned (.tuple #[.slice none 0 0,.int .i64 0,.int .i64 9])/\Step w w')
set_option maxRecDepth 20000 in
theorem rVectors_ok {w0 w:World} {A:Option Addr} {c n:Nat} {m:List (List Int)} {bound budget:Int} (hM:Mat64 w0 A m) (hL:LLLed m) (h1:m.length=n) (hb:0<=bound) (hb1:bound<1073741824) (hu0:0<=budget) (hu1:budget<=1000000) (hmx:totS m bound<=budget->lastOf (stS m bound)<=8193) [hx:Ext w0 w]:
  Calls Tryz.prog 24 #[.slice A n c,.int .i64 bound,.int .i64 budget] w (RetV10 w m bound budget):=by
 have hn8:=hL.len8
 have hn1:=hL.len1
 have hr:=red_ok hL.red
 have HST:=Lib.hid (fun W (e:Ext w0 W)=>rSteps_ok (w:=W) (c:=c) hM hL h1 hb hb1 hu0 hu1)
 obtain ⟨b,rfl⟩:∃b:Nat,bound=b:=⟨bound.toNat,by omega⟩
 have hso:=(steps_ok hL.red (b:=b) hb1).1
 have hlen:(stS m b).length=n:=by rw [hso.len,h1]
 have hone:=hso.one
 have hsum:=hso.sum
 have hlt:=lvs_tot hL.red (b:=b) hb1
 rw [h1] at hlt
 have HIT:Hid (totS m b<=budget->∀W,Ext w0 W->Calls Tryz.prog 54 #[.slice A n c,.int .i64 b] W (RetIts W (itemsL m (lvs m b (n-1) [])))):=Lib.hid (fun ht W e=>rItems_ok hM hL h1 hb hb1 (by omega))
 obtain ⟨hvl,hvl2⟩:=items_vecList hr hb
 rw [h1] at hvl
 have HVL:=Lib.hid hvl
 have HIL:Hid (totS m b<=budget->(itemsL m (lvs m b (n-1) [])).length<=1000000):=Lib.hid (fun ht=>by
  have :=itemsL_len m (lvs m b (n-1) [])
  omega)
 generalize itemsL m (lvs m b (n-1) [])=its at*
 have HSU:Hid (totS m b<=budget->∀(W0 W:World) g,Row W0 g 3 .i64 (stS m b)->Ext W0 W->Calls Tryz.prog 55 #[.slice (some ⟨g,0,none⟩) n n] W (RetVal W (.int .i64 (totS m b)))):=Lib.hid (fun ht W0 W g hg e=>by
  have :=rsum_ok (w:=W) (c:=n) hg.ints (by rw [hlen];omega) (fun x hx=>by have :=hone x hx;omega) (by omega)
  rwa [hlen,hsum] at this)
 have HMX:=Lib.hid hmx
 have HGE:Hid ((stS m b)[n-1]? =some (lastOf (stS m b))):=Lib.hid (by
  have h2:n-1<(stS m b).length:=by rw [hlen];omega
  unfold lastOf
  rw [hlen,List.getElem?_eq_getElem h2]
  simp [List.getD,List.getElem?_eq_getElem h2])
 have hl1:1<=lastOf (stS m b):=hone _ (List.mem_of_getElem? HGE.out)
 have HLN:=Lib.hid hlen
 have hw1:IntKind.i64.wrap ((n:Int)-1)=((n-1:Nat):Int):=by rw [show (n:Int)-1=((n-1:Nat):Int) by omega];exact IntWalk.i64_in _ (by omega)
 have hn0:0<n:=by omega
 clear hM hL hso hone h1 hr hvl hvl2 hlt hlen hsum hmx
 unfold RetV10
 unfold RetSt at HST
 generalize totS m b=tot at*
 generalize lastOf (stS m b)=la at*
 generalize stS m b=st at*
 unfold RetIts at HIT
 go_enter Tryz.func24,Tryz.ntmps24
 go_upto_region 2 with (go_at_call 35;refine (HST.out _ inferInstance).mono ?_;rintro e w1 (⟨ht,g,rfl,hR,hgs,hs1⟩ |⟨hbad,rfl,hs1⟩))
 ·have HR:=Lib.hid hR
  have hcy:w1.cell? ⟨g,n-1,none⟩=some (.int .i64 la):=by
   obtain ⟨y',hy',hcy⟩:=hR.cell (i:=n-1) (by rw [HLN.out];omega)
   rw [HGE.out] at hy'
   injection hy' with hy'
   rwa [<-hy'] at hcy
  have hgl:=hR.lt
  have hla:=HMX.out ht
  have hd1:decide (8193<la)=false:=by simp;omega
  have HI2:=Lib.hid (HIT.out ht)
  have HI3:=Lib.hid (HIL.out ht)
  have HS2:=Lib.hid (HSU.out ht)
  clear hR HIT HSU HIL HST HMX
  go_wp2_with (first
   |(go_at_call 54;refine (HI2.out _ inferInstance).mono ?_;rintro e w2 ⟨A2,c2,vs2,rfl,hO2,hV2,hs2⟩)
   |(go_at_call 53;refine (rVec9_ok hO2.arr hV2 HI3.out).mono ?_;unfold RetMatL;rintro e w3 ⟨A3,c3,rfl,hM3,h31,h32,hs3⟩)
   |(go_at_call 55;refine (HS2.out _ _ _ HR.out inferInstance).mono ?_;rintro e w4 ⟨rfl,hs4⟩))
  go_ret3
  exact .inl ⟨ht,A3,c3,its.map Prod.snd,by rw [List.length_map];rfl,hM3.ext inferInstance,h31,h32,HVL.out,Step.of _ _⟩
 ·go_wp2_with fail
  go_ret3
  exact .inr ⟨hbad,rfl,Step.of _ _⟩
theorem mat64_nil (w:World):Mat64 w none []:=⟨[],rfl,Arr.nil,fun i r hr=>by simp at hr⟩
def VxRel (w1:World) (i:Value) (wr:World):Prop:=∃k:Nat,k<=2/\i= .int .i64 k/\Ext w1 wr
set_option maxRecDepth 20000 in
theorem EnumerateVectors_any {w:World} {dim kind bound bud:Int} {NA:Option Addr} {l:List Int} {nc:Nat} {v3:Value} {te:TypeId} (hN:Ints w NA te .i8 l) (h8:I8 l) (hl:l.length<=9223372036854775807) (hd0:0<=dim) (hd1:dim<256) (hk0:0<=kind) (hk1:kind<256) (hb0:0<=bound) (hb1:bound<256) (hu0:0<=bud) (hu1:bud<65536):
  Calls Tryz.prog 3 #[.agg #[.int .u8 dim,.int .u8 kind,.slice NA l.length nc,v3],.int .u8 bound,.int .u16 bud] w (RetVal w (.bool true)):=by
 have HG:Hid (∀W,Ext w W->Calls Tryz.prog 22 #[.agg #[.int .u8 dim,.int .u8 kind,.slice NA l.length nc,v3],.int .u8 bound] W (RetSmall W (1+(dim%4).toNat) bound)):=Lib.hid (fun W e=>rsmall11_ok (hN.ext e) h8 hl hd0 hd1 hk0 hk1 hb0 hb1)
 have hn1:1<=1+(dim%4).toNat:=by omega
 have hn4:1+(dim%4).toNat<=4:=by omega
 clear hN h8
 generalize 1+(dim%4).toNat=n at*
 have e6:=Int.emod_nonneg bound (show 13-2*(n:Int)≠0 by omega)
 have e7:=Int.emod_lt_of_pos bound (show 0<13-2*(n:Int) by omega)
 unfold RetSmall at HG
 obtain ⟨b,hb⟩:∃b:Nat,bound%(13-2*(n:Int))=b:=⟨(bound%(13-2*(n:Int))).toNat,by omega⟩
 rw [hb] at HG e6 e7
 have HV:Hid (∀(m:List (List Int)) (q:Int) (W0 W:World) A c,isRedB m=true->m.length=n->totS m b<=q->q<=1000000->Mat64 W0 A m->n<=c->c<=9223372036854775807->Ext W0 W->Calls Tryz.prog 23 #[.slice A n c,.int .i64 b,.int .i64 q] W (RetVL W m b)):=Lib.hid (fun m q W0 W A c hr hmn hq hq2 hM h1 h2 e=>by
  have :=Vectors_red (w:=W) (c:=c) (b:=b) (budget:=q) hM (by omega) h2 hr (by omega) (by omega) hq hq2
  rwa [hmn] at this)
 have HF:Hid (∀(m:List (List Int)) (q:Int) (W0 W:World) A c,isRedB m=true->m.length=n->0<=q->q<totS m b->q<=1000000->Mat64 W0 A m->n<=c->c<=9223372036854775807->Ext W0 W->Calls Tryz.prog 23 #[.slice A n c,.int .i64 b,.int .i64 q] W (RetVal W (.tuple #[.slice none 0 0,.int .i64 0,.int .i64 9]))):=Lib.hid (fun m q W0 W A c hr hmn h0 hq hq2 hM h1 h2 e=>by
  have :=Vectors_few (w:=W) (c:=c) (b:=b) (budget:=q) hM (by omega) h2 hr (by omega) h0 hq hq2
  rwa [hmn] at this)
 have HR10:Hid (∀(m:List (List Int)) (q:Int) (W0 W:World) A c,LLLed m->m.length=n->0<=q->q<=1000000->Mat64 W0 A m->Ext W0 W->Calls Tryz.prog 24 #[.slice A n c,.int .i64 b,.int .i64 q] W (RetV10 W m b q)):=Lib.hid (fun m q W0 W A c hL hmn h0 hq2 hM e=>by
  have hfew:=few_steps2 hL.red (b:=b) (by omega) (by omega)
  have hst:=(steps_ok hL.red (b:=b) (by omega)).1
  have hlast:=hst.last_le (by omega)
  exact rVectors_ok (w:=W) (c:=c) hM hL hmn (by omega) (by omega) h0 hq2 (fun _=>by omega))
 clear hb
 go_enter Tryz.func3,Tryz.ntmps3
 go_upto_region 2 with (go_at_call 22;refine (HG.out _ inferInstance).mono ?_;rintro e w1 ⟨g,m,A1,c1,rfl,-,hLL,hlen,-,hM1,hc1,hc2,hs1⟩;have HM:=Lib.hid hM1;have HR:=Lib.hid hLL;have ht1:=few_steps2 hLL.red (b:=b) (by omega) (by omega);have ht2:=totS_ge hLL.red (b:=b) (by omega);rw [hlen] at ht2;clear hM1 hLL)
 have HVM:=Lib.hid (fun (q:Int) (h1:totS m b<=q) (h2:q<=1000000) W (e:Ext w1 W)=>HV.out m q w1 W A1 c1 HR.out.red hlen h1 h2 HM.out hc1 hc2 e)
 have HFM:=Lib.hid (fun (q:Int) (h0:0<=q) (h1:q<totS m b) (h2:q<=1000000) W (e:Ext w1 W)=>HF.out m q w1 W A1 c1 HR.out.red hlen h0 h1 h2 HM.out hc1 hc2 e)
 have HRM:=Lib.hid (fun (q:Int) (h0:0<=q) (h2:q<=1000000) W (e:Ext w1 W)=>HR10.out m q w1 W A1 c1 HR.out hlen h0 h2 HM.out e)
 have HLN:=Lib.hid hlen
 unfold RetVL at HVM
 unfold RetV10 at HRM
 clear HV HF HR10 HG hlen
 generalize totS m b=t1 at*
 go_wp2_with fail
 have hxw1:Ext w w1:=inferInstance
 have HC:Hid (∀W,Ext (w1.alloc (.cells #[.int .i64 bud,.int .i64 20000] 3)) W->Ext w1 W/\W.cell? ⟨w1.heap.size,0,none⟩=some (.int .i64 bud)/\W.cell? ⟨w1.heap.size,1,none⟩=some (.int .i64 20000)):=Lib.hid (fun W e=>by
  have hb:=heap_of_ext e (heap_alloc_new w1 _)
  obtain ⟨f0,f1,-,-,-⟩:=box_cells2 hb
  exact ⟨Ext.trans inferInstance e,f0,f1⟩)
 go_loopw [27] (fun i wr=>VxRel (w1.alloc (.cells #[.int .i64 bud,.int .i64 20000] 3)) i wr) (fun i _=>2-(intOf i).toNat)
 case atStart=>exact ⟨0,by omega,rfl,inferInstance⟩
 case round=>
  unfold VxRel at hrel
  obtain ⟨k,hk,rfl,hxr⟩:=hrel
  obtain ⟨hx1,f0,f1⟩:=HC.out wr hxr
  have hxw:Ext w wr:=hxw1.trans hx1
  by_cases hlt:k<2
  ·obtain ⟨q,hq0,hq1,hcq⟩:∃q:Int,0<=q/\q<=1000000/\wr.cell? ⟨w1.heap.size,k,none⟩=some (.int .i64 q):=by
    rcases (show k=0∨k=1 by omega) with rfl |rfl
    ·exact ⟨bud,by omega,by omega,f0⟩
    ·exact ⟨20000,by omega,by omega,f1⟩
   clear f0 f1
   have HRQ:=Lib.hid (HRM.out q hq0 hq1)
   rcases Int.lt_or_le q t1 with hqt |hqt
   ·have HFQ:=Lib.hid (HFM.out q hq0 hqt hq1)
    have HSM:Hid (∀W,Calls Tryz.prog 25 #[.slice none 0 0,.slice none 0 0] W (RetQ W (.bool true))):=Lib.hid (fun W=>by
     have h:=ref09_Same_any (w:=W) (c:=0) (d:=0) (mat64_nil W) (mat64_nil W) (by simp) (by simp) (fun r hr=>by simp at hr) (fun r hr=>by simp at hr)
     rwa [decide_eq_true rfl] at h)
    clear HVM HFM HRM
    go_wp2_with (first
     |(go_at_call 23;refine (HFQ.out _ inferInstance).mono ?_;rintro e w4 ⟨rfl,hs4⟩)
     |(go_at_call 24;refine (HRQ.out _ inferInstance).mono ?_;rintro e w5 (⟨hbad,-⟩ |⟨-,rfl,hs5⟩);(exact absurd hbad (by omega)))
     |(go_at_call 25;refine (HSM.out _).mono ?_;rintro e w6 ⟨rfl,nq,rfl⟩))
    exact ⟨⟨k+1,by omega,by go_num,inferInstance⟩,by simp [intOf]<;>omega⟩
   ·have HVQ:=Lib.hid (HVM.out q hqt hq1)
    clear HVM HFM HRM
    go_wp2_with (first
     |(go_at_call 23;refine (HVQ.out _ inferInstance).mono ?_;rintro e w4 ⟨B2,d2,L2,rfl,hM2,h21,h22,hV2,h23,hs4⟩;have HM2:=Lib.hid hM2;have HV2:=Lib.hid hV2;clear hM2 hV2)
     |(go_at_call 24;refine (HRQ.out _ inferInstance).mono ?_;rintro e w5 (⟨-,B3,d3,L3,rfl,hM3,h31,h32,hV3,hs5⟩ |⟨hbad,-⟩);(rotate_left;(exact absurd hbad (by omega)));have hLe:L2=L3:=VecList.unique HV2.out hV3;subst hLe;have HRW:=Lib.hid HV2.out.rows;rw [HLN.out] at HRW;have HSM:=Lib.hid (fun W (c d:Nat) (e:Ext w5 W)=>ref09_Same_any (w:=W) (c:=c) (d:=d) (HM2.out.ext (inferInstance:Ext w4 w5)) hM3 (by omega) (by omega) (fun r hr=>by rw [HRW.out r hr];omega) (fun r hr=>by rw [HRW.out r hr];omega));rw [decide_eq_true rfl] at HSM;clear hM3 hV3 HM2 HV2)
     |(go_at_call 25;refine (HSM.out _ _ _ inferInstance).mono ?_;rintro e w6 ⟨rfl,nq,rfl⟩))
    exact ⟨⟨k+1,by omega,by go_num,inferInstance⟩,by simp [intOf]<;>omega⟩
  ·obtain rfl:k=2:=by omega
   clear f0 f1
   go_wp2_with (go_at_call 26;refine awake11_any.mono ?_;rintro e w6 ⟨rfl,hs6⟩)
   go_ret
   exact ⟨rfl,Step.of _ _⟩
end Go.Proofs.YtjehjkipcaohpaaGreat

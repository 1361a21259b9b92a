/- R11g Ver12 -/
import Derived.Test.YtjehjkipcaohpaaGreatW25
import Derived.Test.YtjehjkipcaohpaaGreatProg
import Derived.Test.YtjehjkipcaohpaaGreatWSh
set_option maxHeartbeats 8000000
set_option linter.unusedVariables false
set_option linter.unusedSimpArgs false
set_option linter.constructorNameAsVariable false
namespace Go.Proofs.YtjehjkipcaohpaaGreat
open Go.RowKit
open La
theorem zhx {l:List Int} (h:∀x∈l,0<=x) (k:Nat):(l.take k).sum<=l.sum:=by
 have :=List.take_append_drop k l
 have h2:(l.take k).sum+(l.drop k).sum=l.sum:=by rw [<-List.sum_append,this]
 have h3:0<=(l.drop k).sum:=by
  have :∀m:List Int,(∀x∈m,0<=x)->0<=m.sum:=fun m=>by
   induction m with
   |nil=>intro _;simp
   |cons a m ih=>intro hm;rw [List.sum_cons];have :=ih (fun x hx=>hm x (by simp [hx]));have :=hm a (by simp);omega
  exact this _ fun x hx=>h x (List.mem_of_mem_drop hx)
 omega
def zhy (l:List Int) (N:Nat) (w:World) (s3 i:Value) (wr:World):Prop:=∃k:Nat,k<=N/\i= .int .i64 k/\s3= .int .i64 (l.take k).sum/\∃q,wr=w.drewN q
set_option maxRecDepth 20000 in
theorem zoz {w0 w:World} {A:Option Addr} {c:Nat} {l:List Int} (hA:Ints w0 A 3 .i64 l) (hl:l.length<=1000000) (h0:∀x∈l,0<=x) (hs:l.sum<=1000000000) [hx:Ext w0 w]:
  Calls Tryz.prog 55 #[.slice A l.length c] w (zv w (.int .i64 l.sum)):=by
 have HA:=Zh (hA.ext hx)
 obtain ⟨N,hN⟩:∃N,N=l.length:=⟨_,rfl⟩
 have HN:=Zh hN
 have H0:=Zh (fun k=>zhx h0 k)
 have H1:Hid (∀k,0<=(l.take k).sum):=Zh (fun k=>by
  have :=zhx (l:=l.take k) (fun x hx=>h0 x (List.mem_of_mem_take hx)) 0
  simpa using this)
 rw [<-hN] at hl |-;clear hA hN;unfold zv;go_enter Tryz.func55,Tryz.ntmps55;go_wp2;go_loopw [3,8] (fun s3 i wr=>zhy l N w s3 i wr) (fun _ i _=>N-(intOf i).toNat)
 case atStart=>exact ⟨0,by omega,rfl,rfl,0,rfl⟩
 case round=>
  unfold zhy at hrel;obtain ⟨k,hk,rfl,rfl,q,rfl⟩:=hrel;by_cases hlt:k<N
  ·obtain ⟨x,hp⟩:∃x,l[k]? =some x:=⟨_,List.getElem?_eq_getElem (by rw [<-HN.out];exact hlt)⟩
   obtain ⟨b,o,-,rfl,-⟩:=HA.out.at_ (by rw [<-HN.out];omega)
   have hc:=(qJ HA.out hp).1
   have HTK:=Zh (ze1 l k x hp)
   have hx1:IntKind.i64.wrap ((l.take k).sum+x)=(l.take (k+1)).sum:=by
    rw [<-HTK.out];have a1:=H0.out (k+1);have a2:=H1.out (k+1);exact IntWalk.i64_in _ (by omega)
   clear hp;go_wp2_with fail;exact ⟨⟨k+1,by omega,by go_num,by first |rfl |simpa using hx1,_,rfl⟩,by simp [intOf]<;>omega⟩
  ·obtain rfl:k=N:=by omega
   have htk:(l.take k).sum=l.sum:=by rw [List.take_of_length_le (by rw [<-HN.out];exact Nat.le_refl _)]
   rw [htk];go_wp2_with fail;go_ret;exact ⟨rfl,Step.of _ _⟩
def zbK (w:World) (m:List (List Int)) (bound budget:Int) (e:Ending) (w':World):Prop:=
 (Zc m bound<=budget/\∃B d L,e= .returned (.tuple #[.slice B (List.length L) d,.int .i64 (Zc m bound),.int .i64 0])/\Mat64 w' B L/\L.length<=d/\d<=9223372036854775807/\VecList m bound false L/\Step w w')∨(budget<Zc m bound/\e= .returned (.tuple #[.slice none 0 0,.int .i64 0,.int .i64 9])/\Step w w')
set_option maxRecDepth 20000 in
theorem zoA {w0 w:World} {A:Option Addr} {c n:Nat} {m:List (List Int)} {bound budget:Int} (hM:Mat64 w0 A m) (hL:LLLed m) (h1:m.length=n) (hb:0<=bound) (hb1:bound<1073741824) (hu0:0<=budget) (hu1:budget<=1000000) (hmx:Zc m bound<=budget->QJ (Z6 m bound)<=8193) [hx:Ext w0 w]:
  Calls Tryz.prog 24 #[.slice A n c,.int .i64 bound,.int .i64 budget] w (zbK w m bound budget):=by
 have hn8:=hL.len8
 have hn1:=hL.len1
 have hr:=ZS hL.red
 have HST:=Zh (fun W (e:Ext w0 W)=>zhp (w:=W) (c:=c) hM hL h1 hb hb1 hu0 hu1)
 obtain ⟨b,rfl⟩:∃b:Nat,bound=b:=⟨bound.toNat,by omega⟩
 have hso:=(zax hL.red (b:=b) hb1).1
 have hlen:(Z6 m b).length=n:=by rw [hso.len,h1]
 have hone:=hso.one
 have hsum:=hso.sum
 have hlt:=zos hL.red (b:=b) hb1
 rw [h1] at hlt;have HIT:Hid (Zc m b<=budget->∀W,Ext w0 W->Calls Tryz.prog 54 #[.slice A n c,.int .i64 b] W (zbJ W (z6 m (z8 m b (n-1) [])))):=Zh (fun ht W e=>zox hM hL h1 hb hb1 (by omega))
 obtain ⟨hvl,hvl2⟩:=znt hr hb
 rw [h1] at hvl;have HVL:=Zh hvl;have HIL:Hid (Zc m b<=budget->(z6 m (z8 m b (n-1) [])).length<=1000000):=Zh (fun ht=>by
  have :=zhu m (z8 m b (n-1) [])
  omega)
 generalize z6 m (z8 m b (n-1) [])=its at*;have HSU:Hid (Zc m b<=budget->∀(W0 W:World) g,Row W0 g 3 .i64 (Z6 m b)->Ext W0 W->Calls Tryz.prog 55 #[.slice (some ⟨g,0,none⟩) n n] W (zv W (.int .i64 (Zc m b)))):=Zh (fun ht W0 W g hg e=>by
  have :=zoz (w:=W) (c:=n) hg.ints (by rw [hlen];omega) (fun x hx=>by have :=hone x hx;omega) (by omega)
  rwa [hlen,hsum] at this)
 have HMX:=Zh hmx
 have HGE:Hid ((Z6 m b)[n-1]? =some (QJ (Z6 m b))):=Zh (by
  have h2:n-1<(Z6 m b).length:=by rw [hlen];omega
  unfold QJ;rw [hlen,List.getElem?_eq_getElem h2];simp [List.getD,List.getElem?_eq_getElem h2])
 have hl1:1<=QJ (Z6 m b):=hone _ (List.mem_of_getElem? HGE.out)
 have HLN:=Zh hlen
 have hw1:IntKind.i64.wrap ((n:Int)-1)=((n-1:Nat):Int):=by rw [show (n:Int)-1=((n-1:Nat):Int) by omega];exact IntWalk.i64_in _ (by omega)
 have hn0:0<n:=by omega
 clear hM hL hso hone h1 hr hvl hvl2 hlt hlen hsum hmx;unfold zbK;unfold zaM at HST;generalize Zc m b=tot at*
 generalize QJ (Z6 m b)=la at*;generalize Z6 m b=st at*
 unfold zbJ at HIT;go_enter Tryz.func24,Tryz.ntmps24;go_upto_region 2 with (go_at_call 35;refine (HST.out _ Zi).mono ?_;rintro e w1 (⟨ht,g,rfl,hR,hgs,hs1⟩ |⟨hbad,rfl,hs1⟩))
 ·have HR:=Zh hR
  have hcy:w1.cell? ⟨g,n-1,none⟩=some (.int .i64 la):=by
   obtain ⟨y',hy',hcy⟩:=hR.cell (i:=n-1) (by rw [HLN.out];omega)
   rw [HGE.out] at hy';injection hy' with hy'
   rwa [<-hy'] at hcy
  have hgl:=hR.lt
  have hla:=HMX.out ht
  have hd1:decide (8193<la)=false:=by simp;omega
  have HI2:=Zh (HIT.out ht)
  have HI3:=Zh (HIL.out ht)
  have HS2:=Zh (HSU.out ht)
  clear hR HIT HSU HIL HST HMX;go_wp2_with (first
   |(go_at_call 54;refine (HI2.out _ Zi).mono ?_;rintro e w2 ⟨A2,c2,vs2,rfl,hO2,hV2,hs2⟩)
   |(go_at_call 53;refine (zoy hO2.arr hV2 HI3.out).mono ?_;unfold zco;rintro e w3 ⟨A3,c3,rfl,hM3,h31,h32,hs3⟩)
   |(go_at_call 55;refine (HS2.out _ _ _ HR.out Zi).mono ?_;rintro e w4 ⟨rfl,hs4⟩))
  go_ret3
  exact .inl ⟨ht,A3,c3,its.map Prod.snd,by rw [List.length_map];rfl,hM3.ext Zi,h31,h32,HVL.out,Step.of _ _⟩
 ·go_wp2_with fail
  go_ret3
  exact .inr ⟨hbad,rfl,Step.of _ _⟩
set_option maxRecDepth 20000 in
theorem zoB {w:World} {dim kind bound:Int} {NA:Option Addr} {l:List Int} {nc:Nat} {v3:Value} {te:TypeId} (hN:Ints w NA te .i8 l) (h8:I8 l) (hl:l.length<=9223372036854775807) (hd0:0<=dim) (hd1:dim<256) (hk0:0<=kind) (hk1:kind<256) (hb0:0<=bound) (hb1:bound<256):
  Calls Tryz.prog 13 #[.agg #[.int .u8 dim,.int .u8 kind,.slice NA l.length nc,v3],.int .u8 bound] w (zv w (.bool true)):=by
 have HG:Hid (∀W,Ext w W->Calls Tryz.prog 40 #[.agg #[.int .u8 dim,.int .u8 kind,.slice NA l.length nc,v3],.int .u8 bound] W (zds W (1+(dim%4).toNat) bound)):=Zh (fun W e=>znM (hN.ext e) h8 hl hd0 hd1 hk0 hk1 hb0 hb1)
 have hn1:1<=1+(dim%4).toNat:=by omega
 have hn4:1+(dim%4).toNat<=4:=by omega
 clear hN h8;generalize 1+(dim%4).toNat=n at*;have e6:=Int.emod_nonneg bound (show 13-2*(n:Int)≠0 by omega)
 have e7:=Int.emod_lt_of_pos bound (show 0<13-2*(n:Int) by omega)
 unfold zds at HG;obtain ⟨b,hb⟩:∃b:Nat,bound%(13-2*(n:Int))=b:=⟨(bound%(13-2*(n:Int))).toNat,by omega⟩
 rw [hb] at HG e6 e7;have HT:Hid (∀(m:List (List Int)) (W0 W:World) A B c d,Ze m=true->m.length=n->Mat64 W0 A m->n<=c->c<=9223372036854775807->IvV W B (Zy m b)->Ext W0 W->Calls Tryz.prog 42 #[.slice A n c,.int .i64 b,.slice B (Zy m b).length d] W (zg8 W m b)):=Zh (fun m W0 W A B c d hr hmn hM h1 h2 hI e=>by
  have :=znN hr (b:=b) (by omega) (by omega)
  have :=znL (w0:=W) (w:=W) (c:=c) (d:=d) (b:=b) (hM.ext e) (by omega) h2 hr (by omega) (by omega) hI (by omega)
  rw [hmn] at this;simp only [if_pos] at this
  exact this)
 have HE:Hid (∀(m:List (List Int)) (W0 W:World) A c,LLLed m->m.length=n->Mat64 W0 A m->Ext W0 W->Calls Tryz.prog 41 #[.slice A n c,.int .i64 b,.int .i64 20000] W (fun e w'=>∃B d,e= .returned (.tuple #[.slice B (Zy m b).length d,.int .i64 0])/\IvV w' B (Zy m b)/\Step W w')):=Zh (fun m W0 W A c hL hmn hM e=>by
  have hfew:=zaJ hL.red (b:=b) (by omega) (by omega)
  have hbd:=znl (ZS hL.red) (b:=(b:Int)) (by omega) (by omega)
  refine (zof (w:=W) (c:=c) hM hL hmn (by omega) (by omega) (by omega) (by omega)).mono ?_
  rintro e' w' (⟨-,B,d,rfl,hO,hs⟩ |⟨hbad,-⟩)
  ·exact ⟨B,d,rfl,⟨⟨64,hO.arr⟩,fun p hp=>by have :=hbd p hp;omega⟩,hs⟩
  ·exact absurd hbad (by omega))
 have zo8:Hid (∀(m:List (List Int)) (W0 W:World) A c,LLLed m->m.length=n->Mat64 W0 A m->Ext W0 W->Calls Tryz.prog 24 #[.slice A n c,.int .i64 b,.int .i64 20000] W (zbK W m b 20000)):=Zh (fun m W0 W A c hL hmn hM e=>by
  have hfew:=zaJ hL.red (b:=b) (by omega) (by omega)
  have hst:=(zax hL.red (b:=b) (by omega)).1
  have hlast:=hst.last_le (by omega)
  exact zoA (w:=W) (c:=c) hM hL hmn (by omega) (by omega) (by omega) (by omega) (fun _=>by omega))
 clear hb;unfold zbK at zo8;go_enter Tryz.func13,Tryz.ntmps13;go_upto_region 5 with (first
  |(go_at_call 40;refine (HG.out _ Zi).mono ?_;rintro e w1 ⟨g,m,A1,c1,rfl,-,hLL,hlen,-,hM1,hc1,hc2,hs1⟩;have HM:=Zh hM1;have HR:=Zh hLL;have ht1:=zaJ hLL.red (b:=b) (by omega) (by omega);clear hM1 hLL)
  |(go_at_call 41;refine (HE.out _ _ _ _ _ HR.out hlen HM.out Zi).mono ?_;rintro e w2 ⟨B2,d2,rfl,hI2,hs2⟩;have HI2:=Zh hI2;clear hI2)
  |(go_at_call 42;refine (HT.out _ _ _ _ _ _ _ HR.out.red hlen HM.out hc1 hc2 (HI2.out.ext Zi) Zi).mono ?_;rintro e w3 ⟨B3,d3,L3,rfl,hM3,h31,h32,hV3,h33,hs3⟩;have HM3:=Zh hM3;have HV3:=Zh hV3;clear hM3 hV3)
  |(go_at_call 24;refine (zo8.out _ _ _ _ _ HR.out hlen HM.out Zi).mono ?_;rintro e w4 (⟨-,B4,d4,L4,rfl,hM4,h41,h42,hV4,hs4⟩ |⟨hbad,-⟩);(rotate_left;(exact absurd hbad (by omega)));have HM4:=Zh hM4;have HV4:=Zh hV4;clear hM4 hV4))
 have hLe:L3=L4:=VecList.unique HV3.out HV4.out
 subst hLe;have HRW:=Zh HV3.out.rows;rw [hlen] at HRW;have HSM:Hid (∀W (c d:Nat),Ext w4 W->Calls Tryz.prog 25 #[.slice B3 L3.length c,.slice B4 L3.length d] W (jp W (.bool true))):=Zh (fun W c d e=>by
  have h:=ze0 (w:=W) (c:=c) (d:=d) (HM3.out.ext (Zi:Ext w3 w4)) HM4.out (by omega) (by omega) (fun r hr=>by rw [HRW.out r hr];omega) (fun r hr=>by rw [HRW.out r hr];omega)
  rwa [decide_eq_true rfl] at h)
 generalize (Zy m b).length=tl at*;generalize Zc m b=t1 at*
 clear HM3 HM4 HV3 HV4 HT HE zo8 HG;go_wp2_with (first
  |(go_at_call 25;refine (HSM.out _ _ _ Zi).mono ?_;rintro e w5 ⟨rfl,nq,rfl⟩)
  |(go_at_call 43;refine zm3.mono ?_;rintro e w6 ⟨rfl,hs6⟩))
 go_ret
 exact ⟨rfl,Step.of _ _⟩
end Go.Proofs.YtjehjkipcaohpaaGreat

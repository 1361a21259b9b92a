import Derived.Test.YtpijjipngkdhdaaGreatEH02
import Derived.Test.YtpijjipngkdhdaaGreatE26
set_option maxHeartbeats 8000000
set_option linter.unusedVariables false
set_option linter.unusedSimpArgs false
namespace Go.Proofs.YtpijjipngkdhdaaGreat
open Go.RowKit
theorem Vm{w0 w:World}{A B:Option Addr}{c d:Nat}{p q:List Ct}(hA:CtV w0 A p)(hB:CtV w0 B q)(h1:p.length<=1099511627776)(h2:q.length<=1099511627776)[hx:Ext w0 w]:
  Calls Tryz.prog 34 #[.slice A p.length c,.slice B q.length d] w (zz w (.bool (zM p q))):=by
 have HC:=Zh (zdO (c:=c) (d:=d) (hA.ext hx) (hB.ext hx) h1 h2);have HV:=Zh (zaY p q);generalize Zc p q=r at*
 generalize p.length=n at*
 generalize q.length=m at*
 go_enter Tryz.func34,Tryz.ntmps34;go_wp2_with (go_at_call 79;refine HC.out.mono ?_;rintro e w1 ⟨rfl,hG⟩;have hs1:=zcG hG)
 go_ret;exact⟨by rw[<-HV.out];rfl,hs1⟩
end Go.Proofs.YtpijjipngkdhdaaGreat
namespace Go.Proofs.YtpijjipngkdhdaaGreat
open Go.RowKit
open La
theorem VB{m:List (List Int)}(hr:RedOK m){b:Nat}(hb:(b:Int)<1073741824){L:List (List Int)}(h:VecList m b false L):∀y∈L,y.length=m.length/\∀a∈y,-1099511627776<=a/\a<=1099511627776:=fun y hy=>by
 obtain⟨h1,-,h3,-⟩:=(h.mem y).1 hy;exact⟨h1,fun a ha=>zaz.1 (zln (zlm hr (by omega) hb y h1 h3)) a ha⟩
def vA(W:World)(m:List (List Int))(b:Nat)(e:Ending)(w':World):Prop:=∃A c vs L,e= .returned (.slice A (List.length L) c)/\Arr w' A 55 vs/\ItV w' vs (L.map fun y=>(zi m y,y))/\VecList m b false L/\L.length<=8000/\Step W w'
theorem Va{w0 w:World}{A:Option Addr}{c b n:Nat}{m:List (List Int)}(hM:Mat64 w0 A m)(hL:LLLed m)(hmn:m.length=n)(h4:n<=4)(hb:b+2*n<=12)[hx:Ext w0 w]:
  Calls Tryz.prog 32 #[.slice A n c,.int .i64 b] w (vA w m b):=by
 have hr:=hL.red;have hO:=qT hr;have zsP:=zbQ hr (b:=b) (by omega) (.inl (by omega));have hlt:=Vx hr (b:=b) (by omega);rw[hmn]at hlt;obtain⟨hvl,yH⟩:=vF hO (b:=b) (by omega);rw[hmn]at hvl yH;have hil:=vz m (vf m b (n-1) []);refine(Vl (w:=w) (c:=c) (za:=b) hM.a hL hmn (by omega) (by omega) (by omega)).mono ?_;generalize va m (vf m b (n-1) [])=its at*
 rintro e w' ⟨A1,c1,vs,he,Yb,hV,hs⟩;rw[yH]at hV;exact⟨A1,c1,vs,its.map Prod.snd,by rw[List.length_map];exact he,Yb.arr,hV,hvl,by rw[List.length_map];omega,hs⟩
end Go.Proofs.YtpijjipngkdhdaaGreat
namespace Go.Proofs.YtpijjipngkdhdaaGreat
open Go.RowKit
theorem vI{w:World}{A:Option Addr}{C:List CE}(h:Arr w A 53 (ZT C)){j:Nat}{z:CE}(hz:C[j]? =some z):∃b o,A=some ⟨b,o,none⟩/\w.cell? ⟨b,o+j*3,none⟩=some (.int .i64 z.n)/\w.cell? ⟨b,o+j*3+1,none⟩=some (.slice z.A z.p.length z.c)/\w.cell? ⟨b,o+j*3+2,none⟩=some (.int .i64 z.N)/\b<w.heap.size:=by
 obtain⟨f0,f1,f2⟩:=zbW C j z hz;obtain⟨b,o,cs,fr,rfl,hb,hc⟩:=h (by have :=(Zg.1 f0).1;omega);have key:∀i u,(ZT C)[i]? =some u->w.cell? ⟨b,o+i,none⟩=some u:=fun i u hu=>by simpa[World.cell?,hb] using hc i u hu
 exact⟨b,o,rfl,key _ _ f0,by rw[Nat.add_assoc];exact key _ _ f1,by rw[Nat.add_assoc];exact key _ _ f2,zw hb⟩
end Go.Proofs.YtpijjipngkdhdaaGreat
namespace Go.Proofs.YtpijjipngkdhdaaGreat
open Go.RowKit
open La
def vj(T:List Ks)(q:Ks):Nat:=@List.count _ instBEqOfDecidableEq q T
theorem vE(T:List Ks)(k q:Ks):vj (T++[k]) q=vj T q+if k=q then 1 else 0:=by
 unfold vj;rw[@List.count_append _ instBEqOfDecidableEq,@List.count_singleton _ instBEqOfDecidableEq];simp
section
variable {m L:List (List Int)} {C:List CE} (hk:C.map CE.key=qi Z1 (L.map (Za m L)))
include hk
theorem VC{k:Nat}{z:CE}(hz:C[k]? =some z):1<=z.N/\z.N=(vj (L.map (Za m L)) (z.n,z.p):Int):=by
 have h1:z.key∈qi Z1 (L.map (Za m L)):=by rw[<-hk];exact List.mem_map_of_mem (Zm hz)
 have h2:=((j2 jr (L.map (Za m L))).mem _).1 h1;exact⟨by have :=h2.1;show 1<=z.key.2;omega,h2.2⟩
theorem vO{k j:Nat}{a b:CE}(ha:C[k]? =some a)(hb:C[j]? =some b)(h:k<j):Z1 (a.n,a.p) (b.n,b.p):=by
 have h1:=(j2 jr (L.map (Za m L))).sorted;rw[<-hk]at h1;have ha':=Zg.1 ha;have hb':=Zg.1 hb;have h2:=(List.pairwise_iff_getElem.1 h1) k j (by rw[List.length_map];exact ha'.1) (by rw[List.length_map];exact hb'.1) h;rw[List.getElem_map,List.getElem_map,ha'.2,hb'.2]at h2;exact h2
theorem Vy{I:List Int}{j:Nat}{y:List Int}(h:Hits I ((qi Z1 (L.map (Za m L))).map Prod.fst) j (Za m L y)):∃(i:Nat) (z:CE),I[j]? =some (i:Int)/\C[i]? =some z/\z.n=zi m y/\z.p=zA m L y:=by
 obtain⟨i,h1,h2⟩:=h;rw[<-hk,List.map_map,List.getElem?_map]at h2
 cases hz:C[i]? with
 |none=>rw[hz]at h2;cases h2
 |some z=>
  rw[hz]at h2;injection h2 with h2
  injection h2 with h2 h3
  exact⟨i,z,h1,hz,h2,h3⟩
theorem Vt{i k:Nat}{y:List Int}{z:CE}(hy:L[i]? =some y)(hz:C[k]? =some z)(h1:z.n=zi m y)(h2:z.p=zA m L y):
  (C.map fun x=>(vj ((L.take i).map (Za m L)) (x.n,x.p):Int)).set k ((vj ((L.take i).map (Za m L)) (z.n,z.p):Int)+1)=C.map fun x=>(vj ((L.take (i+1)).map (Za m L)) (x.n,x.p):Int):=by
 have hs:(L.take (i+1)).map (Za m L)=(L.take i).map (Za m L)++[Za m L y]:=by
  rw[List.take_add_one,hy,List.map_append];rfl
 have Yc:Za m L y=(z.n,z.p):=by rw[h1,h2];rfl
 rw[hs,Yc];apply List.ext_getElem?;intro j;have hkl:=(Zg.1 hz).1;by_cases e:k=j
 ·subst e;rw[List.getElem?_set_self (by simpa using hkl),List.getElem?_map,hz];simp[vE]
 ·rw[List.getElem?_set_ne e,List.getElem?_map,List.getElem?_map]
  cases hj:C[j]? with
  |none=>rfl
  |some x=>
   have hne:(z.n,z.p)≠(x.n,x.p):=fun he=>by
    rcases Nat.lt_or_gt_of_ne e with h |h
    ·have :=vO hk hz hj h;rw[he]at this;exact jr.irr _ this
    ·have :=vO hk hj hz h;rw[he]at this;exact jr.irr _ this
   simp only[Option.map_some,vE,if_neg hne,Nat.add_zero]
end
theorem vP{w0 w:World}{A X:Option Addr}{c d b n:Nat}{m L:List (List Int)}{x:List Int}(hM:Mat64 w0 A m)(hc:n<=c)(hc2:c<=9223372036854775807)(hL:LLLed m)(hmn:m.length=n)(h4:n<=4)(hb:b+2*n<=12)(hv:LstOf m b L)(hx:x∈L)(hX:Ints w0 X 2 .i64 x)[he:Ext w0 w]:
  Calls Tryz.prog 30 #[.slice A n c,.int .i64 b,.int .i64 20000,.slice X n d] w (fun e w'=>∃B k,e= .returned (.tuple #[.slice B (zA m L x).length k,.int .i64 0])/\CtV w' B (zA m L x)/\Step w w'):=by
 subst hmn;have hr:=hL.red;have hR:=J1 hr;have hO:=qT hr;obtain⟨hxl,-,hxb,-⟩:=(hv.1.mem x).1 hx;have hnn:=J0 hO x hxl;have hbd:=(VB hO (by omega) hv.1 x hx).2;have h:=zhy (w0:=w0) (w:=w) (c:=c) (d:=d) (b:=b) (u:=20000) (P:=LstOf m b) hM.a hc hc2 hR hX hxl hbd (decide_eq_true (by omega)) (fun W' e=>zhQ hM hc hc2 hL rfl h4 hb) (fun L' hL'=>⟨(hL'.prf hL (by omega)).1,zhN hO (by omega) hL'.1 hxl (by omega)⟩)
 rw[hxl]at h;refine h.mono ?_;rintro e w' ⟨B,k,L',he,hL',Yd,hs⟩;obtain rfl:=VecList.unique hv.1 hL'.1;exact⟨B,k,he,⟨_,Yd.arr⟩,hs⟩
set_option maxRecDepth 20000 in
theorem vm{w:World}{dim kind za:Int}{NA:Option Addr}{l:List Int}{nc:Nat}{v3:Value}{te:TypeId}(hN:Ints w NA te .i8 l)(h8:I8 l)(hl:l.length<=9223372036854775807)(hd0:0<=dim)(hd1:dim<256)(hk0:0<=kind)(hk1:kind<256)(hb0:0<=za)(hb1:za<256):
  Calls Tryz.prog 7 #[.agg #[.int .u8 dim,.int .u8 kind,.slice NA l.length nc,v3],.int .u8 za] w (zz w (.bool true)):=by
 have HAW:Hid (∀W,Calls Tryz.prog 23 #[] W (zz W (.bool true))):=Zh (fun W=>zoT);have HG:Hid (∀W,Ext w W->Calls Tryz.prog 25 #[.agg #[.int .u8 dim,.int .u8 kind,.slice NA l.length nc,v3],.int .u8 za] W (zd1 W (1+(dim%4).toNat) za)):=Zh (fun W e=>zoZ (hN.ext e) h8 hl hd0 hd1 hk0 hk1 hb0 hb1);have hn1:1<=1+(dim%4).toNat:=by omega
 have hn4:1+(dim%4).toNat<=4:=by omega
 clear hN h8;generalize 1+(dim%4).toNat=n at*
 generalize l.length=ln at*
 have e6:=Int.emod_nonneg za (show 11-2*(n:Int)≠0 by omega);have e7:=Int.emod_lt_of_pos za (show 0<11-2*(n:Int) by omega);unfold zd1 at HG;obtain⟨b,hb⟩:∃b:Nat,za%(11-2*(n:Int))=b:=⟨(za%(11-2*(n:Int))).toNat,by omega⟩;rw[hb]at HG e6 e7;have zsh:b+2*n<=12:=by omega
 have HFS:Hid (∀(m:List (List Int))(W0 W:World)A c,LLLed m->m.length=n->Mat64 W0 A m->n<=c->c<=9223372036854775807->Ext W0 W->Calls Tryz.prog 29 #[.slice A n c,.int .i64 b,.int .i64 20000] W (zo1 W m (LstOf m b))):=Zh (fun m W0 W A c hL hmn hM h1 h2 e=>zo2 hM h1 h2 hL hmn hn4 zsh);have HFC:Hid (∀(m:List (List Int))(W0 W:World)A c,LLLed m->m.length=n->Mat64 W0 A m->n<=c->c<=9223372036854775807->Ext W0 W->Calls Tryz.prog 26 #[.slice A n c,.int .i64 b,.int .i64 20000] W (zd0 W m (LstOf m b))):=Zh (fun m W0 W A c hL hmn hM h1 h2 e=>zo5 hM h1 h2 hL hmn hn4 zsh)
 have HIT:Hid (∀(m:List (List Int))(W0 W:World)A c,LLLed m->m.length=n->Mat64 W0 A m->Ext W0 W->Calls Tryz.prog 32 #[.slice A n c,.int .i64 b] W (vA W m b)):=Zh (fun m W0 W A c hL hmn hM e=>Va hM hL hmn hn4 zsh);have HFP:Hid (∀(m L:List (List Int))(x:List Int)(W0 W:World)A X c d,LLLed m->m.length=n->Mat64 W0 A m->n<=c->c<=9223372036854775807->LstOf m b L->x∈L->Ints W0 X 2 .i64 x->Ext W0 W->Calls Tryz.prog 30 #[.slice A n c,.int .i64 b,.int .i64 20000,.slice X n d] W (fun e w'=>∃B k,e= .returned (.tuple #[.slice B (zA m L x).length k,.int .i64 0])/\CtV w' B (zA m L x)/\Step W w')):=Zh (fun m L x W0 W A X c d hL hmn hM h1 h2 hv hx hX e=>vP hM h1 h2 hL hmn hn4 zsh hv hx hX)
 unfold zo1 at HFS;unfold zd0 at HFC;unfold vA at HIT;clear hb e6 e7 zsh;go_enter Tryz.func7,Tryz.ntmps7;go_upto_region 2 with (go_at_call 25;refine(HG.out _ Zi).mono ?_;rintro e w1 ⟨g,m,A1,c1,rfl,-,hLL,zqf,-,hM1,hc1,hc2,hs1⟩;have HM:=Zh hM1;have HR:=Zh (And.intro hLL zqf);clear hM1 hLL zqf)
 go_upto_region 3 with (go_at_call 29;refine(HFS.out m w1 _ _ _ HR.out.1 HR.out.2 HM.out hc1 hc2 Zi).mono ?_;rintro e w2 ⟨B2,k2,C,L,rfl,hP2,hA2,zsw,hk2,yI,hs2⟩)
 go_upto_region 4 with (go_at_call 26;refine(HFC.out m w1 _ _ _ HR.out.1 HR.out.2 HM.out hc1 hc2 Zi).mono ?_;rintro e w3 ⟨g3,L3,I,rfl,hP3,hR3,hI3,yJ,hs3⟩;obtain rfl:=VecList.unique hP2.1 hP3.1)
 go_upto_region 5 with (go_at_call 32;refine(HIT.out m w1 _ _ _ HR.out.1 HR.out.2 HM.out Zi).mono ?_;rintro e w4 ⟨IA,ic,vs,L4,rfl,yh,hV4,yK,-,hs4⟩;obtain rfl:=VecList.unique hP2.1 yK)
 obtain⟨N,hN⟩:∃N,L.length=N:=⟨_,rfl⟩;obtain⟨q,hq⟩:∃q,C.length=q:=⟨_,rfl⟩;have Ym:N<=8000:=by rw[<-hN];exact hP2.2
 have Yn:q<=N:=by rw[<-hN,<-hq];exact yI
 have HE:Hid (∀(j:Nat)(y:List Int),L[j]? =some y->∃b o B cb,IA=some ⟨b,o,none⟩/\w4.cell? ⟨b,o+j*2,none⟩=some (.int .i64 (zi m y))/\w4.cell? ⟨b,o+j*2+1,none⟩=some (.slice B n cb)/\Ints w4 B 2 .i64 y/\b<w4.heap.size):=Zh (fun j y hy=>by
  obtain⟨B,cb,a1,a2,a3,-⟩:=hV4.2 j (zi m y,y) (by rw[List.getElem?_map,hy];rfl);obtain⟨b,o,hA,h1,h2⟩:=yh.at_ a1;obtain⟨b',o',hA',h1',-⟩:=yh.at_ a2;rw[hA]at hA';injection hA' with hA'
  injection hA' with z1 z2
  subst z1 z2;have hyl:y.length=n:=by rw[((hP2.1.mem y).1 (Zm hy)).1];exact HR.out.2
  simp only[hyl]at h1';exact⟨b,o,B,cb,hA,h1,by rw[Nat.add_assoc];exact h1',a3,h2⟩)
 have HSG:Hid (∀W,Ext w4 W->Arr W B2 53 (ZT C)/\∀x∈C,x.ok W):=Zh (fun W e=>by
  have e2:Ext w2 W:=(Zi:Ext w2 w4).trans e;exact⟨hA2.ext e2,fun x hx=>(zsw x hx).kp (Kp.of_ext e2)⟩)
 have HRI:Hid (Row w4 g3 3 .i64 I):=Zh (hR3.ext Zi);have yj:Hid (∀(y:List Int)(W:World)Y dy,y∈L->Ints w4 Y 2 .i64 y->Ext w4 W->Calls Tryz.prog 30 #[.slice A1 n c1,.int .i64 b,.int .i64 20000,.slice Y n dy] W (fun e w'=>∃B k,e= .returned (.tuple #[.slice B (zA m L y).length k,.int .i64 0])/\CtV w' B (zA m L y)/\Step W w')):=Zh (fun y W Y dy hy hY e=>HFP.out m L y w4 W A1 Y c1 dy HR.out.1 HR.out.2 (HM.out.ext Zi) hc1 hc2 hP2 hy hY e)
 have HKK:=Zh hk2;have yL:=Zh yJ;have HNN:=Zh (And.intro hN hq);have HPL:Hid (∀y,(zA m L y).length<=8000):=Zh (fun y=>by have :=zdR m L y;omega);have zqZ:Ext w w4:=Zi;rw[hN]at hI3 |-
 rw[hq];have HIL:=Zh hI3;have hmi:=Qt (P:=Tryz.prog) Tryz.underlying36 jA (by omega) (q:Int) (by omega) (by omega);clear hN hq hP2 hA2 zsw hk2 yI hP3 hR3 hI3 yJ yh hV4 yK HFS HFC HIT HFP HG HM HR;have hnn:((N:Int) !=(N:Int))=false:=by simp
 go_upto_region 8 with fail
 obtain⟨w5,hw5⟩:∃w5,w5=w4.alloc (.cells (qv q .i64) 3):=⟨_,rfl⟩;have zrP:Ext w4 w5:=by rw[hw5];infer_instance
 have HR5:Hid (Row w5 w4.heap.size 3 .i64 (C.map fun x=>(vj ((L.take 0).map (Za m L)) (x.n,x.p):Int))):=Zh (by
  have h:=Row.made w4 q .i64 3;rw[<-hw5,<-HNN.out.2]at h;have e:(C.map fun x=>(vj ((L.take 0).map (Za m L)) (x.n,x.p):Int))=List.replicate C.length 0:=by
   rw[List.eq_replicate_iff];exact⟨by simp,fun v hv=>by
    obtain⟨x,-,rfl⟩:=List.mem_map.1 hv;rfl⟩
  rw[e];exact h)
 try rw[<-hw5]
 clear hw5 hmi;go_wp2_with fail
 go_loopw [13,14,15,16,57] (fun _ _ _ _ i wr=>∃k:Nat,k<=N/\i= .int .i64 k/\Hid (Row wr w4.heap.size 3 .i64 (C.map fun x=>(vj ((L.take k).map (Za m L)) (x.n,x.p):Int)))/\Ext w4 wr) (fun _ _ _ _ i _=>N-(intOf i).toNat)
 case atStart=>exact⟨0,by omega,rfl,HR5,zrP⟩
 case round=>
  obtain⟨k,hk,rfl,VQ,hxr⟩:=hrel;by_cases hlt:k<N
  ·obtain⟨y,hy⟩:∃y,L[k]? =some y:=⟨_,Ze (by rw[HNN.out.1];exact hlt)⟩;obtain⟨i,z,hIi,hz,hzn,hzp⟩:=Vy HKK.out (yL.out k y hy);have Ye:i<q:=by rw[<-HNN.out.2];exact(Zg.1 hz).1
   obtain⟨v0,hv0,f0⟩:=(HRI.out.ext hxr).cell (i:=k) (by rw[HIL.out];exact hlt);obtain rfl:v0=(i:Int):=by rw[hIi]at hv0;injection hv0 with h;exact h.symm
   obtain⟨v,hv,f1⟩:=VQ.out.cell (i:=i) (by simp[HNN.out.2,Ye]);have f2:=VQ.out.frozen i;have hve:v=(vj ((L.take k).map (Za m L)) (z.n,z.p):Int):=by
    rw[List.getElem?_map,hz]at hv;injection hv with h
    exact h.symm
   have Yo:0<=v/\v<=8000:=by
    have h1:=@List.count_le_length _ instBEqOfDecidableEq (z.n,z.p) ((L.take k).map (Za m L));rw[List.length_map,List.length_take]at h1;have h2:v=(@List.count _ instBEqOfDecidableEq (z.n,z.p) ((L.take k).map (Za m L)):Int):=hve;omega
   have hvw:IntKind.i64.wrap (v+1)=v+1:=IntWalk.i64_in _ (by omega);obtain⟨ib,io,B,cB,rfl,z1,z2,hI,z3⟩:=HE.out k y hy;have oI:Old ib w4:=⟨z3⟩;have e1:wr.cell? ⟨ib,io+k*2,none⟩=some (.int .i64 (zi m y)):=(zg w4).trans z1;obtain⟨b2,o2,rfl,s1,s2,s3,s4⟩:=vI (HSG.out wr hxr).1 hz;have oR:Old ib wr:=⟨Nat.lt_of_lt_of_le z3 hxr.size⟩;have oS:Old b2 wr:=⟨s4⟩;have oC:Old w4.heap.size wr:=⟨VQ.out.lt⟩;have o3:Old g3 wr:=⟨(HRI.out.ext hxr).lt⟩
   have HST:Hid ((C.map fun x=>(vj ((L.take (k+1)).map (Za m L)) (x.n,x.p):Int))=(C.map fun x=>(vj ((L.take k).map (Za m L)) (x.n,x.p):Int)).set i (v+1)):=Zh (by
    rw[<-Vt HKK.out hy hz hzn hzp,<-hve])
   have HYL:=Zh (And.intro (Zm hy) hI);have HZ:=Zh hz;have yM:=Zh hzp;have yN:=Zh z2;have hni:((zi m y) !=(zi m y))=false:=by simp
   have hd1:decide ((i:Int)<0)=false:=by simp
   have hd2:decide ((i:Int)≥(q:Int))=false:=by simp;omega
   have hd3:decide ((q:Int)<=(i:Int))=false:=by simp;omega
   rw[hzn]at s1;generalize zi m y=ny at*
   clear hy hIi hz hv0 hv hve hzp hI z1 z2 s2 s3 hzn;go_upto_region 11 with fail
   go_quiet (fail)
   go_upto_region 13 with fail
   obtain⟨wq,hwq⟩:∃wq,wq=wr.drewN nq:=⟨_,rfl⟩;have hxq:Ext wr wq:=by rw[hwq];infer_instance
   try rw[<-hwq]
   clear hwq;have V5:=VQ.out.ext hxq;have f1:wq.cell? ⟨w4.heap.size,i,none⟩=some (.int .i64 v):=(zg wr).trans f1;have f2:=V5.frozen i;have oC:Old w4.heap.size wq:=⟨V5.lt⟩;have Yp:Ext w4 wq:=hxr.trans hxq;have HRS:Hid (Row (wq.setCell ⟨w4.heap.size,i,none⟩ (.int .i64 (v+1))) w4.heap.size 3 .i64 (C.map fun x=>(vj ((L.take (k+1)).map (Za m L)) (x.n,x.p):Int))):=Zh (by
    rw[HST.out];exact V5.set i (v+1))
   clear V5;go_upto_region 14 with fail
   obtain⟨W1,hW1⟩:∃W1,W1=wq.setCell ⟨w4.heap.size,i,none⟩ (.int .i64 (v+1)):=⟨_,rfl⟩;have hx1:Ext w4 W1:=by rw[hW1];infer_instance
   rw[<-hW1]at HRS;try rw[<-hW1]
   have y2:W1.cell? ⟨ib,io+k*2+1,none⟩=some (.slice B n cB):=(zg w4).trans yN.out;obtain⟨b3,o3',hb3,-,s2,-,s4'⟩:=vI (HSG.out W1 hx1).1 HZ.out;injection hb3 with hb3
   injection hb3 with hb3 ho3
   subst hb3 ho3;have oI1:Old ib W1:=⟨Nat.lt_of_lt_of_le z3 hx1.size⟩;have oS1:Old b2 W1:=⟨s4'⟩;have HPC:=Zh (fun W(e:Ext w4 W)=>yj.out y W B cB HYL.out.1 HYL.out.2 e);have HSP:Hid (∀W P d,Ext w4 W->CtV W P (zA m L y)->Calls Tryz.prog 33 #[.slice P (zA m L y).length d,.slice z.A z.p.length z.c] W (zz W (.bool true))):=Zh (fun W P d e hP=>by
    have hok:=(HSG.out W e).2 z (Zm HZ.out);have h:=zn3 (w0:=W) (w:=W) (c:=d) (d:=z.c) hP hok.ct (by have :=HPL.out y;omega) hok.2;rw[yM.out]at h;simp only[decide_true]at h;rw[yM.out];exact h)
   generalize zA m L y=py at*
   generalize z.p.length=zl at*
   clear hW1 e1 s1 f0 f1 f2 HYL yN yj;go_wp2_with (first
    |(go_at_call 30;refine(HPC.out _ Zi).mono ?_;rintro e w6 ⟨P6,k6,rfl,yO,hs6⟩;have Yf:=Zh yO;clear yO)
    |(go_at_call 33;refine(HSP.out _ _ _ Zi (Yf.out.ext Zi)).mono ?_;rintro e w7 ⟨rfl,hs7⟩))
   have hx7:Ext W1 w7:=Zi;exact⟨⟨k+1,by omega,by go_num,Zh (HRS.out.ext hx7),hx1.trans hx7⟩,by simp[intOf];omega⟩
  ·obtain rfl:k=N:=by omega
   clear hlt;have hft:L.take k=L:=List.take_of_length_le (by rw[HNN.out.1];exact Zr);have hrk:=VQ.out;rw[hft]at hrk;have yk:=Zh hrk;obtain⟨w6,yP⟩:∃w6,w6=wr:=⟨_,rfl⟩;rw[<-yP]at hxr yk |-
   have zus:Ext w w6:=zqZ.trans hxr;clear yP hrk hft VQ yj HE yL HRI;go_wp2_with fail
   go_loopw [17,115] (fun _ i wr=>∃j:Nat,j<=q/\i= .int .i64 j/\Ext w6 wr) (fun _ i _=>q-(intOf i).toNat)
   case atStart=>exact⟨0,by omega,rfl,Zi⟩
   case round=>
    obtain⟨j,hj,rfl,hxz⟩:=hrel;have V6:Ext w4 wr:=hxr.trans hxz;by_cases hlj:j<q
    ·obtain⟨z,hz⟩:∃z,C[j]? =some z:=⟨_,Ze (by rw[HNN.out.2];exact hlj)⟩;obtain⟨hz1,hz2⟩:=VC HKK.out hz;obtain⟨v,hv,f1⟩:=(yk.out.ext hxz).cell (i:=j) (by simp[HNN.out.2,hlj]);obtain rfl:v=z.N:=by
      rw[List.getElem?_map,hz]at hv;injection hv with h
      rw[hz2];exact h.symm
     obtain⟨b2,o2,rfl,s1,s2,s3,s4⟩:=vI (HSG.out wr V6).1 hz;have oS:Old b2 wr:=⟨s4⟩;have oC:Old w4.heap.size wr:=⟨(yk.out.ext hxz).lt⟩;have Yq:((z.N) !=(z.N))=false:=by simp
     have hd1:decide (z.N<1)=false:=by simp;omega
     have hok:=(HSG.out wr V6).2 z (Zm hz);have HOK:=Zh hok;have HZ:=Zh hz;clear hz hv hz2 hok;obtain⟨zl,hzl⟩:∃zl,z.p.length=zl:=⟨_,rfl⟩;have HZL:=Zh hzl;rw[hzl]at s2;clear hzl;go_upto_region 21 with fail
     simp only[List.append_eq,List.cons_append,List.nil_append];go_cut [182] (fun c W=>c= .bool false/\Ext wr W)
     case first=>as_aux_lemma=>
      rcases Nat.eq_zero_or_pos j with h0 |hjp
      ·have Yg:decide ((j:Int)>0)=false:=by simp;omega
       have Yh:decide (0<(j:Int))=false:=by simp;omega
       have Yi:decide (0<j)=false:=by simp;omega
       clear h0;go_quiet (fail)
       go_wp2_with fail
       go_meet
       exact⟨rfl,Zi⟩
      ·obtain⟨kp,hkk⟩:∃kp,kp+1=j:=⟨j-1,by omega⟩;obtain⟨y,hy⟩:∃y,C[kp]? =some y:=⟨_,Ze (by rw[HNN.out.2];omega)⟩;have hlt:=vO HKK.out hy HZ.out (by omega);obtain⟨b3,o3',hb3,r1,r2,-,-⟩:=vI (HSG.out wr V6).1 hy;injection hb3 with hb3
       injection hb3 with hb3 ho3
       subst hb3 ho3;have hym:=Zm hy;have hkw:IntKind.i64.wrap ((j:Int)-1)=(j:Int)-1:=IntWalk.i64_in _ (by omega);have hkn:((j:Int)-1).toNat=kp:=by omega
       have Yr:(0:Int)<=(j:Int)-1:=by omega
       have zue:(j:Int)-1<(q:Int):=by omega
       have Yg:decide ((j:Int)>0)=true:=by simp;omega
       have Yh:decide (0<(j:Int))=true:=by simp;omega
       have Yi:decide (0<j)=true:=by simp;omega
       clear hkk hy;rcases hlt with h |⟨h,h'⟩
       ·simp only at h;have dd1:decide (y.n<z.n)=true:=by simpa using h
        clear h r2;go_quiet (fail)
        go_wp2_with fail
        go_meet
        exact⟨rfl,Zi⟩
       ·simp only at h h';have dd1:decide (y.n<z.n)=false:=by simp;omega
        have dd2:(y.n==z.n)=true:=by simpa using h
        have HLS:Hid (∀W,Ext w4 W->Calls Tryz.prog 34 #[.slice y.A y.p.length y.c,.slice z.A zl z.c] W (zz W (.bool true))):=Zh (fun W e=>by
         have yQ:=(HSG.out W e).2 y hym;have yR:=(HSG.out W e).2 z (Zm HZ.out);have h:=Vm (w0:=W) (w:=W) (c:=y.c) (d:=z.c) yQ.ct yR.ct yQ.2 yR.2;rw[h',HZL.out]at h;exact h)
        generalize y.p.length=yl at*
        clear h h' hym;have q1:(1:Int)<=(j:Int):=by omega
        have q2:1<=j:=by omega
        have q3:(j:Int)<(q:Int)+1:=by omega
        have q4:j<q+1:=by omega
        have q5:(j:Int)<=(q:Int):=by omega
        go_region_held3 (fun w'=>w'.cell? ⟨w4.heap.size,j,none⟩=some (.int .i64 z.N)/\w'.cell? ⟨b2,o2+j*3,none⟩=some (.int .i64 z.n)/\w'.cell? ⟨b2,o2+j*3+1,none⟩=some (.slice z.A zl z.c)/\w'.cell? ⟨b2,o2+j*3+2,none⟩=some (.int .i64 z.N)/\w'.cell? ⟨b2,o2+kp*3,none⟩=some (.int .i64 y.n)/\w'.cell? ⟨b2,o2+kp*3+1,none⟩=some (.slice y.A yl y.c))
         ((simp only[zg wr];exact⟨f1,s1,s2,s3,r1,r2⟩))
         ((go_at_call 34;refine(HLS.out _ (V6.trans Zi)).mono ?_;rintro e w9 ⟨rfl,hs9⟩))
        all_goals
         go_wp2_with fail
         go_meet
         exact⟨rfl,Zi⟩
     case rest=>
      obtain⟨rfl,hxc⟩:=hcut;go_wp2_with fail
      exact⟨⟨j+1,by omega,by go_num,hxz.trans (hxc.trans Zi)⟩,by simp[intOf];omega⟩
    ·obtain rfl:j=q:=by omega
     go_wp2_with (go_at_call 23;refine(HAW.out _).mono ?_;rintro e w8 ⟨rfl,hs8⟩)
     go_ret;exact⟨rfl,(zus.trans (hxz.trans Zi)).toStep⟩
end Go.Proofs.YtpijjipngkdhdaaGreat

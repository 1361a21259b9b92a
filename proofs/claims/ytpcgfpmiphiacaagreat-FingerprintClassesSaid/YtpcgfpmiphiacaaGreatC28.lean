import Derived.Test.YtpcgfpmiphiacaaGreatC27
set_option maxHeartbeats 8000000
set_option linter.unusedVariables false
set_option linter.unusedSimpArgs false
namespace Go.Proofs.YtpcgfpmiphiacaaGreat
open Go.RowKit
open La
variable {m:List (List Int)} {b c n:Nat} {A:Option Addr} {w w0:World}
theorem zqN(hM:Mat64 w0 A m)(hL:LLLed m)(hmn:m.length=n)(h4:n<=4)(hb:b+2*n<=12)[hx:Ext w0 w]:
  Cq 21 #[.slice A n c,.int .i64 b,.int .i64 20000] w (zbG w m (LstOf m b)):=by
 have hO:=qA hL.red;refine zqM (w:=w) (c:=c) (b:=b) (u:=20000) (P:=LstOf m b) (fun W e=>zqI (hx:=hx.trans e) hM hL hmn h4 hb) (fun W e=>(zi3 (hx:=hx.trans e) hM hL hmn h4 hb).mono fun e w'⟨A1,c1,vs,L,he,h1,h2,h3,h4,hs⟩=>⟨A1,c1,vs,L,he,h1,h2,⟨h3,h4⟩,hs⟩) (fun L W0 W IA ic vs X d y hP hy e0 h1 h2 hX e=>?_) (fun L hP=>⟨by have:=hP.2;omega,fun y hy=>by rw[hP.1.zd y hy,hmn]⟩);have hv:=zi2 hO (by omega) hP.1
 have h:=zi4 (w0:=W0) (w:=W) (c:=c) (ic:=ic) (d:=d) (hM.ext (hx.trans e0)).a hL hmn h1 h2 rfl (by have:=hP.2;omega) hX (by rw[(hv y hy).1,hmn]) (hv y hy).2 (by rw[<-hmn];exact hv) ((hP.prf hL (by omega)).2 y hy);exact h
theorem zqO(hM:Mat64 w0 A m)(hc:n<=c)(hc2:c<=9223372036854775807)(hL:LLLed m)(hmn:m.length=n)(h4:n<=4)(hb:b+2*n<=12)[hx:Ext w0 w]:
  Cq 6 #[.slice A n c,.int .i64 b,.int .i64 20000] w (zbF w m (LstOf m b)):=by
 subst hmn;have hR:=zdN hL.red;exact zqq (w0:=w0) (w:=w) (c:=c) (b:=b) (u:=20000) (P:=LstOf m b) hM.a (by omega) (fun r hr=>Nat.le_of_eq (hR.all r hr)) (fun W e=>zqH hM hc hc2 hL rfl h4 hb) (fun L h=>h.prf hL (by omega))
def Z2(K:List Ks)(k:Ks)(r:Nat):List Int:=(List.range r).filterMap fun(i:Nat)=>if K[i]? =some k then some (i:Int) else none
theorem zi9(K:List Ks)(k:Ks)(r:Nat):Z2 K k (r+1)=Z2 K k r++(if K[r]? =some k then [(r:Int)] else []):=by
 unfold Z2;rw[List.range_succ,List.filterMap_append];congr 1
 by_cases h:K[r]? =some k<;>simp[h]
theorem zqP(K:List Ks)(k:Ks)(r:Nat):(Z2 K k r).length<=r:=by
 have h:=List.length_filterMap_le (fun i:Nat=>if K[i]? =some k then some (i:Int) else none) (List.range r);simpa[Z2] using h
def Z3(K ks:List Ks):List Int:=ks.flatMap fun k=>Z2 K k K.length
theorem zqQ(K ks:List Ks)(k:Ks):Z3 K (ks++[k])=Z3 K ks++Z2 K k K.length:=by simp[Z3]
theorem zja(K:List Ks):∀ks:List Ks,(Z3 K ks).length<=ks.length*K.length
 |[]=>by simp[Z3]
 |k::ks=>by
  have h:=zja K ks;have h2:=zqP K k K.length;unfold Z3 at h|-
  rw[List.flatMap_cons,List.length_append,List.length_cons,Nat.add_mul,Nat.one_mul];omega
def JA(m L:List (List Int)):List Ks:=(qv Zu (L.map (zP m L))).map Prod.fst
def zbH(w:World)(m:List (List Int))(P:List (List Int)->Prop)(e:Ending)(w':World):Prop:=
 ∃A c L,e= .returned (.tuple #[.slice A (Z3 (JA m L) (L.map (zP m L))).length c,.int .i64 0])/\P L/\Ints w' A 3 .i64 (Z3 (JA m L) (L.map (zP m L)))/\Step w w'
set_option maxRecDepth 20000 in
theorem zqR{b u:Int}{P:List (List Int)->Prop}
  (hsg:∀W,Ext w W->Cq 21 #[.slice A n c,.int .i64 b,.int .i64 u] W (zbG W m P))
  (hit:∀W,Ext w W->Cq 22 #[.slice A n c,.int .i64 b] W (zcG W m P))
  (hpr:∀L W0 W IA ic vs X d y,P L->y∈L->Ext w W0->Arr W0 IA 62 vs->ItV W0 vs (L.map fun y=>(zg m y,y))->Ints W0 X 2 .i64 y->Ext W0 W->Cq 23 #[.slice A n c,.slice IA L.length ic,.slice X n d] W (zaL W (zx m L y)))
  (hun:∀L L',P L->P L'->L=L') (hl6:∀L,P L->L.length<=8000/\∀y∈L,y.length=n):
  Cq 7 #[.slice A n c,.int .i64 b,.int .i64 u] w (zbH w m P):=by
 have HSG:=Zh hsg;have HIT:=Zh hit;have HPR:=Zh hpr;have HL6:=Zh hl6;have HUN:=Zh hun;unfold zbG at HSG;unfold zcG at HIT;unfold zaL at HPR;unfold zbH;clear hsg hit hpr hl6 hun;go_enter Tryz.func7,Tryz.ntmps7;go_upto_region 6 with (first
  |(go_at_call 21;refine(HSG.out _ Zi).mono ?_;rintro e w1 ⟨SA,sc,C,L1,rfl,hP1,hA1,zs5,hk1,ztX,hs1⟩;have H1:=Zh (And.intro hP1 (And.intro hA1 (And.intro zs5 (And.intro hk1 ztX))));clear hP1 hA1 zs5 hk1 ztX)
  |(go_at_call 22;refine(HIT.out _ Zi).mono ?_;rintro e w2 ⟨IA,ic,vs,L,rfl,hA2,hV2,hPL,hs2⟩;have HA2:=Zh hA2;have HV2:=Zh hV2;have HPL:=Zh hPL;clear hA2 hV2 hPL))
 have hx2:Ext w w2:=Zi;have zsU:Ext w1 w2:=Zi;obtain⟨hP1,hA1,zs5,hk1,ztX⟩:=H1.out;obtain rfl:=HUN.out L1 L hP1 HPL.out;obtain⟨hN6,zt7⟩:=HL6.out L1 HPL.out;have HE:Hid (∀(j:Nat)(y:List Int),L1[j]? =some y->∃b o B cb,IA=some ⟨b,o,none⟩/\w2.cell? ⟨b,o+j*2,none⟩=some (.int .i64 (zg m y))/\w2.cell? ⟨b,o+j*2+1,none⟩=some (.slice B n cb)/\Ints w2 B 2 .i64 y/\b<w2.heap.size):=Zh (fun j y hy=>by
  obtain⟨B,cb,a1,a2,a3,-⟩:=HV2.out.2 j (zg m y,y) (by rw[List.getElem?_map,hy];rfl);obtain⟨b,o,hA,h1,h2⟩:=HA2.out.at_ a1;obtain⟨b',o',hA',h1',-⟩:=HA2.out.at_ a2;rw[hA]at hA';injection hA' with hA'
  injection hA' with z1 z2
  subst z1 z2;simp only[zt7 y (Zm hy)]at h1';exact⟨b,o,B,cb,hA,h1,by rw[Nat.add_assoc];exact h1',a3,h2⟩)
 obtain⟨N,hN⟩:=Yz L1.length;have HPC:Hid (∀(W:World)X d y,y∈L1->Ints w2 X 2 .i64 y->Ext w2 W->Cq 23 #[.slice A n c,.slice IA N ic,.slice X n d] W fun e w'=>∃A c,e= .returned (.tuple #[.slice A (zx m L1 y).length c,.bool true])/\Arr w' A 71 (zz (zx m L1 y))/\Step W w'):=Zh (fun W X d y hy hX e=>by
  have h:=HPR.out L1 w2 W IA ic vs X d y HPL.out hy hx2 HA2.out HV2.out hX e;rwa [hN]at h)
 have HNN:=Zh hN;have HPB:Hid (∀y,(zx m L1 y).length<=8000):=Zh (fun y=>by have:=zaG m L1 y;omega);have hKK:JA m L1=C.map fun z=>z.key.1:=by unfold JA;rw[<-hk1,List.map_map];rfl
 obtain⟨K,hK⟩:=Xz (JA m L1);have hKl:K.length=C.length:=by rw[hK,hKK,List.length_map]
 obtain⟨q,hq⟩:=Xz C.length;have HKC:Hid (∀(j:Nat)(z:CE),C[j]? =some z->K[j]? =some (z.n,z.p)):=Zh (fun j z hz=>by rw[hK,hKK,List.getElem?_map,hz];rfl);have HCA:Hid (Arr w2 SA 66 (zK C)/\∀x∈C,x.ok w2):=Zh ⟨hA1.ext zsU,fun x hx=>(zs5 x hx).kp (Kp.of_ext zsU)⟩;have HQ:=Zh hq;have HKL:Hid (K.length=q):=Zh (hKl.trans hq.symm);have hq8:q<=8000:=by omega
 have HK0:=Zh hK;rw[<-hq];have HCL:Hid (∀ks:List Ks,(Z3 K ks).length<=ks.length*q):=Zh (fun ks=>by rw[<-HKL.out];exact zja K ks);have hN8:N<=8000:=by omega
 rw[hN];clear hN zt7 HSG HIT HPR HL6 HA2 HV2 HUN hP1 hA1 zs5 hk1 ztX hKK hK hKl hq H1 hN6;go_wp2_with fail
 go_loopw [10,13,14,15,16,17,33] (fun ov _ _ _ _ _ i wr=>∃(k t c':Nat) (A':Option Addr),k<=N/\i= .int .i64 k/\ov= .slice A' t c'/\Hid ((Z3 K ((L1.take k).map (zP m L1))).length=t)/\Hid (Own wr w2.heap.size 3 1 A' t c' ((Z3 K ((L1.take k).map (zP m L1))).map (Value.int .i64)))/\Ext w2 wr) (fun _ _ _ _ _ _ i _=>N-(intOf i).toNat)
 case atStart=>exact⟨0,0,0,none,by omega,rfl,rfl,Zh rfl,Zh (Own.nil _ _ _ _),Zi⟩
 case round=>
  obtain⟨k,t,c',A',hk,rfl,rfl,HT,HO,hxr⟩:=hrel;by_cases hlt:k<N
  ·obtain⟨y,hy⟩:∃y,L1[k]? =some y:=⟨_,Ze (by rw[HNN.out];exact hlt)⟩;obtain⟨ib,io,B,cb,rfl,z1,z2,hI,z3⟩:=HE.out k y hy;have oB:Old ib w2:=⟨z3⟩;have oBr:Old ib wr:=⟨Nat.lt_of_lt_of_le z3 hxr.size⟩;have e1:wr.cell? ⟨ib,io+k*2,none⟩=some (.int .i64 (zg m y)):=(zi w2).trans z1;have e2:wr.cell? ⟨ib,io+k*2+1,none⟩=some (.slice B n cb):=(zi w2).trans z2;have HKS:Hid ((L1.take (k+1)).map (zP m L1)=(L1.take k).map (zP m L1)++[(zg m y,zx m L1 y)]):=Zh (by rw[List.take_add_one,hy,List.map_append];rfl)
   have hlk:((L1.take k).map (zP m L1)).length=k:=by simp;have:=HNN.out;omega
   have hPY:=fun W(e:Ext w2 W)=>HPC.out W B cb y (Zm hy) hI e
   have hPB:=HPB.out y;generalize zg m y=ny at*
   generalize zx m L1 y=pr at*
   generalize hks:(L1.take k).map (zP m L1)=ks at*
   have htk:t<=k*q:=by rw[<-HT.out];have:=HCL.out ks;rw[hlk]at this;exact this
   have ht8:t<=64000000:=Nat.le_trans htk (Nat.le_trans (Nat.mul_le_mul (by omega:k<=8000) hq8) (by decide));have HPY:=Zh hPY;clear hPY z1 z2 hI hy hks hlk htk;obtain⟨pl,hpl⟩:=Yz pr.length;rw[hpl]at HPY hPB;have zq1:=Zh hpl;clear hpl;go_upto_region 10 with (go_at_call 23;refine(HPY.out _ (hxr.trans Zi)).mono ?_;rintro e w5 ⟨A5,c5,rfl,hA5,hs5⟩;have HA5:=Zh hA5;clear hA5;have hb5:=(Zi:BlkAt wr.heap.size #[.int .i64 ny,.slice B n cb] 62 w5).eq;have HB5:=Zh hb5;clear hb5)
   obtain⟨wo,rfl⟩:∃wo:World,wo=wr:=⟨_,rfl⟩;have hx5:Ext wo w5:=Zi;have ztN:Ext w2 w5:=hxr.trans hx5;have HO5:Hid (Own w5 w2.heap.size 3 1 A' t c' ((Z3 K ks++Z2 K (ny,pr) 0).map (Value.int .i64))):=Zh (by
    have h:=HO.out.ext hx5;simpa[Z2] using h)
   have HT5:Hid ((Z3 K ks++Z2 K (ny,pr) 0).length=t):=Zh (by have:=HT.out;simpa[Z2] using this);have hb2:w2.heap.size<=w5.heap.size:=ztN.size;clear HO HT e1 e2 hx5 oBr;go_wp2_with fail
   go_loopw [10,16,17,47] (fun ov _ _ iv wz=>∃(j t' c':Nat) (A':Option Addr),j<=q/\iv= .int .i64 j/\ov= .slice A' t' c'/\t'<=t+j/\Hid ((Z3 K ks++Z2 K (ny,pr) j).length=t')/\Hid (Own wz w2.heap.size 3 1 A' t' c' ((Z3 K ks++Z2 K (ny,pr) j).map (Value.int .i64)))/\Hid (Grow w2.heap.size 3 w5 wz)) (fun _ _ _ iv _=>q-(intOf iv).toNat)
   case atStart=>exact⟨0,t,c',A',by omega,rfl,rfl,by omega,HT5,HO5,Zh (Grow.refl _ _ _)⟩
   case round=>
    obtain⟨j,t',c2,A2,hj,rfl,rfl,htj,HT2,HO2,HG2⟩:=hrel;obtain⟨wz,hwz⟩:=Xz wr;rw[<-hwz]at HO2 HG2|-
    clear hwz;have zux:Ext w2 wz:=HG2.out.ext ztN Zr;obtain⟨t1,t2,-,-,t5⟩:=zQ (HG2.out.heap HB5.out (by decide));have oX:Old wo.heap.size wz:=⟨t5⟩;by_cases hjl:j<q
    ·obtain⟨z,hz⟩:∃z,C[j]? =some z:=⟨_,Ze (by rw[<-HQ.out];exact hjl)⟩;obtain⟨sb,so,rfl,f1,f2,f3,f4⟩:=zqG (HCA.out.1.ext zux) hz;have hkz:=HKC.out j z hz;have HIX:Hid (Z2 K (ny,pr) (j+1)=Z2 K (ny,pr) j++(if (z.n,z.p)=(ny,pr) then [(j:Int)] else [])):=Zh (by
      rw[zi9,hkz];congr 1
      by_cases h:(z.n,z.p)=(ny,pr)<;>simp[h])
     have HSP:Hid (∀W,Ext wz W->Cq 24 #[.slice z.A z.p.length z.c,.slice A5 pl c5] W (zy W (.bool (decide (z.p=pr))))):=Zh (fun W e=>by
      have hok:=(HCA.out.2 z (Zm hz)).kp (Kp.of_ext zux);have h:=ziC (w0:=wz) (w:=W) (c:=z.c) (d:=c5) hok.ct ⟨_,HA5.out.grow HG2.out (by decide)⟩ hok.2 (by rw[zq1.out];omega);rwa [zq1.out]at h)
     have oS:Old sb wz:=⟨f4⟩;clear hz hkz f4;obtain⟨zn,zA,zc,zp,zN⟩:=z;simp only at f1 f2 f3 HIX HSP;generalize zp.length=zl at*
     have hsz:w2.heap.size<=wz.heap.size:=zux.size;by_cases hh:(zn,zp)=(ny,pr)
     ·have HIY:Hid ((Z3 K ks++Z2 K (ny,pr) (j+1)).map (Value.int .i64)=(Z3 K ks++Z2 K (ny,pr) j).map (Value.int .i64)++[.int .i64 (j:Int)]):=Zh (by
       rw[HIX.out,if_pos hh,<-List.append_assoc,List.map_append];rfl)
      have HIL:Hid ((Z3 K ks++Z2 K (ny,pr) (j+1)).length=t'+1):=Zh (by rw[HIX.out,if_pos hh,<-List.append_assoc,List.length_append,HT2.out];rfl);injection hh with h1 h2
      subst h1;have hd:decide (zp=pr)=true:=decide_eq_true h2;rw[hd]at HSP;have HO9:=Zh (fun(W:World)(e:Ext wz W)=>HO2.out.ext e);clear h2 hd HIX;go_wp2_with (first
       |(go_at_call 24;refine(HSP.out _ Zi).mono ?_;rintro e w6 ⟨rfl,hs6⟩)
       |(at_builtin;refine zM _ rfl _ _ 28 rfl w2.heap.size 3 (.int .i64 0) 1 8 Tryz.underlying28 ju rfl (by omega) (by omega) A2 t' c2 _ rfl (HO9.out _ Zi) _ 1 1 [.int .i64 (j:Int)] rfl (Arr.new w6 3 #[.int .i64 (j:Int)]) (by simp) (by simp[Value.oneCell']) (by omega) (by have:=hs6.size;simp at*;omega) ?_;intro A9 d9 w9 zuv hg9))
      have zxF:Ext wz (w6.alloc (.cells #[.int .i64 (j:Int)] 3)):=Zi;exact⟨⟨j+1,t'+1,d9,A9,by omega,by go_num,rfl,by omega,HIL,Zh (by rw[HIY.out];exact zuv),Zh ((HG2.out.trans zxF hb2).stepI hg9)⟩,by simp[intOf];omega⟩
     ·have HIZ:Hid (Z2 K (ny,pr) (j+1)=Z2 K (ny,pr) j):=Zh (by rw[HIX.out,if_neg hh,List.append_nil]);by_cases hn:zn=ny
      ·have hd:decide (zp=pr)=false:=decide_eq_false (fun e=>hh (by rw[hn,e]));rw[hd]at HSP;subst hn;clear hh hd HIX;go_wp2_with (go_at_call 24;refine(HSP.out _ Zi).mono ?_;rintro e w6 ⟨rfl,hs6⟩)
       exact⟨⟨j+1,t',c2,A2,by omega,by go_num,rfl,by omega,Zh (by rw[HIZ.out];exact HT2.out),Zh (by rw[HIZ.out];exact HO2.out.ext Zi),Zh (HG2.out.trans Zi hb2)⟩,by simp[intOf];omega⟩
      ·have hd:(zn==ny)=false:=by simp[hn]
       clear hh hn HIX;go_wp2_with fail
       exact⟨⟨j+1,t',c2,A2,by omega,by go_num,rfl,by omega,Zh (by rw[HIZ.out];exact HT2.out),Zh (by rw[HIZ.out];exact HO2.out.ext Zi),Zh (HG2.out.trans Zi hb2)⟩,by simp[intOf];omega⟩
    ·obtain rfl:j=q:=by omega
     have HKE:Hid (Z3 K ((L1.take (k+1)).map (zP m L1))=Z3 K ks++Z2 K (ny,pr) j):=Zh (by rw[HKS.out,zqQ,HKL.out]);go_wp2_with fail
     exact⟨⟨k+1,t',c2,A2,by omega,by go_num,rfl,Zh (by rw[HKE.out];exact HT2.out),Zh (by rw[HKE.out];exact HO2.out),zux⟩,by simp[intOf];omega⟩
  ·obtain rfl:k=N:=by omega
   have HFN:Hid ((L1.take k).map (zP m L1)=L1.map (zP m L1)):=Zh (by rw[List.take_of_length_le (by rw[HNN.out];exact Zr)]);rw[HFN.out]at HT HO;go_wp2_with fail
   go_ret2
   rw[HK0.out]at HT HO;exact⟨A',c',L1,by rw[HT.out];rfl,HPL.out,by have:=HO.out.arr;exact this,(hx2.trans hxr).toStep⟩
theorem zqS(hM:Mat64 w0 A m)(hL:LLLed m)(hmn:m.length=n)(h4:n<=4)(hb:b+2*n<=12)[hx:Ext w0 w]:
  Cq 7 #[.slice A n c,.int .i64 b,.int .i64 20000] w (zbH w m (LstOf m b)):=by
 have hO:=qA hL.red;refine zqR (w:=w) (c:=c) (b:=b) (u:=20000) (P:=LstOf m b) (fun W e=>zqN (hx:=hx.trans e) hM hL hmn h4 hb) (fun W e=>(zi3 (hx:=hx.trans e) hM hL hmn h4 hb).mono fun e w'⟨A1,c1,vs,L,he,h1,h2,h3,h4,hs⟩=>⟨A1,c1,vs,L,he,h1,h2,⟨h3,h4⟩,hs⟩) (fun L W0 W IA ic vs X d y hP hy e0 h1 h2 hX e=>?_) (fun L L' h h'=>VecList.unique h.1 h'.1) (fun L hP=>⟨hP.2,fun y hy=>by rw[hP.1.zd y hy,hmn]⟩)
 have hv:=zi2 hO (by omega) hP.1;have h:=zi4 (w0:=W0) (w:=W) (c:=c) (ic:=ic) (d:=d) (hM.ext (hx.trans e0)).a hL hmn h1 h2 rfl (by have:=hP.2;omega) hX (by rw[(hv y hy).1,hmn]) (hv y hy).2 (by rw[<-hmn];exact hv) ((hP.prf hL (by omega)).2 y hy);exact h
theorem zqT{B:Option Addr}{d q:Nat}{I:List Int}(hA:Ints w0 A 3 .i64 I)(hB:Ints w0 B 3 .i64 I)(hl:I.length=q)(hq:q<=1000000000)[hx:Ext w0 w]:
  Cq 8 #[.slice A q c,.slice B q d] w (zy w (.bool true)):=by
 have HA:=Zh hA;have HB:=Zh hB;have HL:=Zh hl;clear hA hB hl;go_enter Tryz.func8,Tryz.ntmps8;go_wp2_with fail
 go_loopw [5,13] (fun _ i wr=>∃k:Nat,k<=q/\i= .int .i64 k/\Ext w wr) (fun _ i _=>q-(intOf i).toNat)
 case atStart=>exact⟨0,by omega,rfl,Zi⟩
 case round=>
  obtain⟨k,hk,rfl,hxr⟩:=hrel;by_cases hlt:k<q
  ·obtain⟨b1,o1,x,rfl,hx1,c1,l1⟩:=(HA.out.ext (hx.trans hxr)).at_ (i:=k) (by rw[HL.out];exact hlt);obtain⟨b2,o2,y,rfl,hy1,c2,l2⟩:=(HB.out.ext (hx.trans hxr)).at_ (i:=k) (by rw[HL.out];exact hlt);obtain rfl:x=y:=by rw[hx1]at hy1;injection hy1
   clear hx1 hy1;go_wp2_with fail
   go_quiet (fail)
   go_wp2_with fail
   exact⟨⟨k+1,by omega,by go_num,hxr.trans Zi⟩,by simp[intOf];omega⟩
  ·obtain rfl:k=q:=by omega
   go_wp2_with fail
   go_ret;exact⟨rfl,hxr.toStep⟩
theorem zqU(m L:List (List Int)):(JA m L).Nodup:=by
 unfold JA;rw[List.Nodup,List.pairwise_map];exact(jP QL (L.map (zP m L))).sorted.imp fun{a b}h(e:a.1=b.1)=>QL.irr b.1 (by rw[e]at h;exact h)
theorem zjb{K:List Ks}(hn:K.Nodup){i:Nat}{k:Ks}(hi:K[i]? =some k):∀r,Z2 K k r=if i<r then [(i:Int)] else []
 |0=>by simp[Z2]
 |r+1=>by
  rw[zi9,zjb hn hi r];by_cases h:r=i
  ·subst h;rw[if_neg (by omega),if_pos hi,if_pos (by omega)];rfl
  ·have hne:K[r]?≠some k:=fun e=>by
    obtain⟨h1,e1⟩:=Zg.1 e;obtain⟨h2,e2⟩:=Zg.1 hi;rcases Nat.lt_or_gt_of_ne h with h3|h3
    ·exact List.pairwise_iff_getElem.1 hn r i h1 h2 h3 (e1.trans e2.symm)
    ·exact List.pairwise_iff_getElem.1 hn i r h2 h1 h3 (e2.trans e1.symm)
   rw[if_neg hne,List.append_nil];by_cases h2:i<r
   ·rw[if_pos h2,if_pos (by omega)]
   ·rw[if_neg h2,if_neg (by omega)]
theorem zjc{K:List Ks}(hn:K.Nodup):∀(ks:List Ks)(I:List Int),I.length=ks.length->(∀j k,ks[j]? =some k->Hits I K j k)->Z3 K ks=I
 |[],I,hl,_=>by rw[List.eq_nil_of_length_eq_zero hl];rfl
 |k::ks,[],hl,_=>by simp at hl
 |k::ks,z::I,hl,h=>by
  obtain⟨i,h1,h2⟩:=h 0 k rfl;have hz:z=(i:Int):=by simpa using h1
  have ih:=zjc hn ks I (by simpa using hl) fun j k' hk'=>by
   obtain⟨i',e1,e2⟩:=h (j+1) k' (by simpa using hk');exact⟨i',by simpa using e1,e2⟩
  have hil:=(Zg.1 h2).1;unfold Z3 at ih|-
  rw[List.flatMap_cons,zjb hn h2,if_pos hil,ih,hz];rfl
set_option maxRecDepth 20000 in
theorem zqV{dim kind za:Int}{NA:Option Addr}{l:List Int}{nc:Nat}{v3:Value}{te:TypeId}(hN:Ints w NA te .i8 l)(h8:I8 l)(hl:l.length<=9223372036854775807)(hd0:0<=dim)(hd1:dim<256)(hk0:0<=kind)(hk1:kind<256)(hb0:0<=za)(hb1:za<256):
  Cq 3 #[.agg #[.int .u8 dim,.int .u8 kind,.slice NA l.length nc,v3],.int .u8 za] w (zy w (.bool true)):=by
 have HAW:Hid (∀W,Cq 9 #[] W (zy W (.bool true))):=Zh (fun W=>zqv);have HG:Hid (∀W,Ext w W->Cq 5 #[.agg #[.int .u8 dim,.int .u8 kind,.slice NA l.length nc,v3],.int .u8 za] W (zeR W (1+(dim%4).toNat) za)):=Zh (fun W e=>zqB (hN.ext e) h8 hl hd0 hd1 hk0 hk1 hb0 hb1);have hn1:1<=1+(dim%4).toNat:=by omega
 have hn4:1+(dim%4).toNat<=4:=by omega
 clear hN h8;generalize 1+(dim%4).toNat=n at*
 generalize l.length=ln at*
 have e6:=Int.emod_nonneg za (show 11-2*(n:Int)≠0 by omega);have e7:=Int.emod_lt_of_pos za (show 0<11-2*(n:Int) by omega);unfold zeR at HG;obtain⟨b,hb⟩:∃b:Nat,za%(11-2*(n:Int))=b:=⟨(za%(11-2*(n:Int))).toNat,by omega⟩;rw[hb]at HG e6 e7;have zur:b+2*n<=12:=by omega
 have HFS:Hid (∀(m:List (List Int))(W0 W:World)A c,LLLed m->m.length=n->Mat64 W0 A m->n<=c->c<=9223372036854775807->Ext W0 W->Cq 6 #[.slice A n c,.int .i64 b,.int .i64 20000] W (zbF W m (LstOf m b))):=Zh (fun m W0 W A c hL hmn hM h1 h2 e=>zqO hM h1 h2 hL hmn hn4 zur);have HRS:Hid (∀(m:List (List Int))(W0 W:World)A c,LLLed m->m.length=n->Mat64 W0 A m->Ext W0 W->Cq 7 #[.slice A n c,.int .i64 b,.int .i64 20000] W (zbH W m (LstOf m b))):=Zh (fun m W0 W A c hL hmn hM e=>zqS hM hL hmn hn4 zur)
 unfold zbF at HFS;unfold zbH at HRS;clear hb e6 e7 zur;go_enter Tryz.func3,Tryz.ntmps3;go_upto_region 2 with (go_at_call 5;refine(HG.out _ Zi).mono ?_;rintro e w1 ⟨g,m,A1,c1,rfl,-,hLL,zr7,-,hM1,hc1,hc2,hs1⟩;have HM:=Zh hM1;have HR:=Zh (And.intro hLL zr7);clear hM1 hLL zr7)
 go_upto_region 4 with (first
  |(go_at_call 6;refine(HFS.out m w1 _ _ _ HR.out.1 HR.out.2 HM.out hc1 hc2 Zi).mono ?_;rintro e w3 ⟨g3,L3,I3,rfl,hP3,hI3,ztp,hh3,hs3⟩;have H3:=Zh (And.intro hP3 (And.intro hI3 (And.intro ztp hh3)));clear hP3 hI3 ztp hh3)
  |(go_at_call 7;refine(HRS.out m w1 _ _ _ HR.out.1 HR.out.2 HM.out Zi).mono ?_;rintro e w4 ⟨B4,k4,L4,rfl,hP4,hI4,hs4⟩;have H4:=Zh (And.intro hP4 hI4);clear hP4 hI4))
 obtain⟨hP3,hI3,ztp,hh3⟩:=H3.out;obtain⟨hP4,hI4⟩:=H4.out;obtain rfl:=VecList.unique hP3.1 hP4.1;have hcl:Z3 (JA m L3) (L3.map (zP m L3))=I3:=zjc (zqU m L3) _ _ (by simpa using ztp) fun j k hk=>by
  rw[List.getElem?_map]at hk
  cases hy:L3[j]? with
  |none=>rw[hy]at hk;cases hk
  |some y=>
   rw[hy]at hk;injection hk with hk
   rw[<-hk];exact hh3 j y hy
 have zxG:Ext w3 w4:=Zi;rw[hcl]at hI4|-
 rw[ztp];have HSC:Hid (∀W,Ext w4 W->Cq 8 #[.slice (some ⟨g3,0,none⟩) L3.length L3.length,.slice B4 L3.length k4] W (zy W (.bool true))):=Zh (fun W e=>zqT (w0:=w4) (w:=W) (hI3.ints.ext zxG) hI4 ztp (by have:=hP3.2;omega));generalize L3.length=q at*
 clear hP3 hI3 ztp hh3 hP4 hI4 hcl H3 H4 HFS HRS HG;go_wp2_with (first
  |(go_at_call 8;refine(HSC.out _ Zi).mono ?_;rintro e w5 ⟨rfl,hs5⟩)
  |(go_at_call 9;refine(HAW.out _).mono ?_;rintro e w6 ⟨rfl,hs6⟩))
 go_ret;exact⟨rfl,Step.of _ _⟩
end Go.Proofs.YtpcgfpmiphiacaaGreat

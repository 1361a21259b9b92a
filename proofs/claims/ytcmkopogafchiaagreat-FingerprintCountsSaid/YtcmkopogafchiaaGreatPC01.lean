/- Pf5 Cnt15 -/
import Derived.Test.YtcmkopogafchiaaGreatProg
import Derived.Test.YtcmkopogafchiaaGreatPSh
import Derived.Test.YtcmkopogafchiaaGreatP26
import Derived.Test.YtcmkopogafchiaaGreatRows
import Derived.Test.YtcmkopogafchiaaGreatShelfC
set_option maxHeartbeats 8000000
set_option linter.unusedVariables false
set_option linter.unusedSimpArgs false
set_option linter.constructorNameAsVariable false
namespace Go.Proofs.YtcmkopogafchiaaGreat
section
variable {κ:Type} [DecidableEq κ] {lt:κ->κ->Prop} [DecidableRel lt]
theorem tally_sum:∀(p:List (κ×Int)) (k:κ),((Zd lt p k).map Prod.snd).sum=(p.map Prod.snd).sum+1
 |[],k=>by simp [Zd]
 |c::p,k=>by
  unfold Zd;split
  ·rw [List.map_cons,List.sum_cons,tally_sum p k,List.map_cons,List.sum_cons];omega
  ·split
   ·simp only [List.map_cons,List.sum_cons];omega
   ·simp only [List.map_cons,List.sum_cons];omega
theorem countL_sum (L:List κ):((Qg lt L).map Prod.snd).sum=L.length:=by
 have h:∀(T:List κ) (p:List (κ×Int)),((T.foldl (fun p q=>Zd lt p q) p).map Prod.snd).sum=(p.map Prod.snd).sum+T.length:=by
  intro T;induction T with
  |nil=>intro p;simp
  |cons q T ih=>intro p;rw [List.foldl_cons,ih,tally_sum,List.length_cons];omega
 have :=h L [];simpa [Qg] using this
end
theorem prof_sum (m L:List (List Int)) (x:List Int):((zE m L x).map Prod.snd).sum=L.length:=by
 unfold zE;rw [countL_sum,List.length_map]
def cntK (T:List Kc) (q:Kc):Nat:=@List.count _ instBEqOfDecidableEq q T
theorem cntK_le (T:List Kc) (q:Kc):cntK T q<=T.length:=@List.count_le_length _ instBEqOfDecidableEq q T
theorem prof_at {m L:List (List Int)} {x:List Int} {c:Ct} (h:c∈zE m L x):1<=c.2/\0<=c.1.2/\c.2=(cntK (L.map (QF m x)) c.1:Int):=by
 have h1:=((JN zbb (L.map (QF m x))).mem c).1 h;have h2:c.1∈L.map (QF m x):=(@List.count_pos_iff _ instBEqOfDecidableEq Zi _ _).1 (by have :=h1.1;rw [h1.2] at this;exact Int.natCast_pos.1 this);obtain ⟨y,-,hy⟩:=List.mem_map.1 h2;have h3:0<=c.1.2:=by rw [<-hy];unfold QF;simp only;omega
 exact ⟨by have :=h1.1;omega,h3,h1.2⟩
theorem prof_asc {m L:List (List Int)} {x:List Int} {k:Nat} {a b:Ct} (ha:(zE m L x)[k]? =some a) (hb:(zE m L x)[k+1]? =some b):ZT a.1 b.1:=by
 obtain ⟨h1,rfl⟩:=Zg.1 ha;obtain ⟨h2,rfl⟩:=Zg.1 hb;exact List.pairwise_iff_getElem.1 (JN zbb (L.map (QF m x))).sorted k (k+1) h1 h2 (by omega)
theorem count_one {κ:Type} [DecidableEq κ] (T:List κ) (k q:κ):(T++[k]).count q=T.count q+if k=q then 1 else 0:=by
 rw [List.count_append,List.count_cons,List.count_nil];simp [beq_iff_eq]
theorem cnt_take {m L:List (List Int)} {x:List Int} {j:Nat} {y:List Int} (h:L[j]? =some y) (q:Kc):(cntK ((L.take (j+1)).map (QF m x)) q:Int)=cntK ((L.take j).map (QF m x)) q+if ((zg m y,(((zA (zN m y) x).natAbs:Nat):Int)):Kc)=q then 1 else 0:=by
 have e:cntK ((L.take (j+1)).map (QF m x)) q=cntK ((L.take j).map (QF m x)) q+if QF m x y=q then 1 else 0:=by
  unfold cntK;rw [List.take_add_one,h,List.map_append];exact count_one _ _ _
 rw [e];show ((_+(if QF m x y=q then 1 else 0):Nat):Int)=_+(if QF m x y=q then 1 else 0);split<;>simp
end Go.Proofs.YtcmkopogafchiaaGreat
namespace Go.Proofs.YtcmkopogafchiaaGreat
open Go.RowKit
set_option maxRecDepth 20000 in
theorem FingerprintCounts_any {w:World} {dim kind za:Int} {NA:Option Addr} {l:List Int} {nc:Nat} {v3:Value} {te:TypeId} (hN:Ints w NA te .i8 l) (h8:I8 l) (hl:l.length<=9223372036854775807) (hd0:0<=dim) (hd1:dim<256) (hk0:0<=kind) (hk1:kind<256) (hb0:0<=za) (hb1:za<256) {te2:TypeId} {A2:Option Addr} {l2:List Int} {c2:Nat} (hI:Ints w A2 te2 .i8 l2) (h82:I8 l2) (hl2:l2.length<=9223372036854775807):
  Calls Tryz.prog 5 #[.agg #[.int .u8 dim,.int .u8 kind,.slice NA l.length nc,v3],.int .u8 za,.slice A2 l2.length c2] w (zw w (.bool true)):=by
 have HAW:Hid (∀W,Calls Tryz.prog 18 #[] W (zw W (.bool true))):=Zh (fun W=>zpQ);have HG:Hid (∀W,Ext w W->Calls Tryz.prog 13 #[.agg #[.int .u8 dim,.int .u8 kind,.slice NA l.length nc,v3],.int .u8 za] W (zet W (1+(dim%4).toNat) za)):=Zh (fun W e=>zpW (hN.ext e) h8 hl hd0 hd1 hk0 hk1 hb0 hb1);have hn1:1<=1+(dim%4).toNat:=by omega
 have hn4:1+(dim%4).toNat<=4:=by omega
 have HVC:=Zh (fun W (e:Ext w W)=>znu (w:=W) (c:=c2) (n:=1+(dim%4).toNat) (hI.ext e) h82 hl2 (by omega));have HV8:Hid (∀y∈Qf l2 (1+(dim%4).toNat),-128<=y/\y<=128):=Zh (fun y hy=>by
  obtain ⟨i,-,rfl⟩:=List.mem_map.1 hy;have :=h82.get i;omega)
 have HVL:Hid ((Qf l2 (1+(dim%4).toNat)).length=1+(dim%4).toNat):=Zh (by simp [Qf]);clear hN h8 hI h82;generalize 1+(dim%4).toNat=n at*
 generalize Qf l2 n=x at*
 generalize l2.length=l2n at*
 generalize l.length=ln at*
 have e6:=Int.emod_nonneg za (show 11-2*(n:Int)≠0 by omega);have e7:=Int.emod_lt_of_pos za (show 0<11-2*(n:Int) by omega);unfold zet at HG;unfold zdU at HVC;obtain ⟨b,hb⟩:∃b:Nat,za%(11-2*(n:Int))=b:=⟨(za%(11-2*(n:Int))).toNat,by omega⟩;rw [hb] at HG e6 e7;have ztm:b+2*n<=12:=by omega
 have HFP:Hid (∀(m:List (List Int)) (W0 W:World) A X c d,LLLed m->m.length=n->Mat64 W0 A m->n<=c->c<=9223372036854775807->Ints W X 2 .i64 x->Ext W0 W->Calls Tryz.prog 15 #[.slice A n c,.int .i64 b,.int .i64 20000,.slice X n d] W (zau W m b x)):=Zh (fun m W0 W A X c d hL hmn hM h1 h2 hX e=>zp4 (hM.ext e) h1 h2 hL hmn hn4 ztm hX HVL.out HV8.out);have HIT:Hid (∀(m:List (List Int)) (W0 W:World) A c,LLLed m->m.length=n->Mat64 W0 A m->Ext W0 W->Calls Tryz.prog 22 #[.slice A n c,.int .i64 b] W (ziI W m b)):=Zh (fun m W0 W A c hL hmn hM e=>zpY (hM.ext e) hL hmn hn4 ztm)
 have HIN:Hid (∀(m L:List (List Int)) (y:List Int) (W0 W1 W2 W:World) A X Y c d dy,LLLed m->m.length=n->VecList m b false L->y∈L->Mat64 W0 A m->Ints W1 X 2 .i64 x->Ints W2 Y 2 .i64 y->Ext W0 W->Ext W1 W->Ext W2 W->Calls Tryz.prog 23 #[.slice A n c,.slice X n d,.slice Y n dy] W (zw W (.tuple #[.int .i64 (zA (zN m y) x),.bool true]))/\JP m L x):=Zh (fun m L y W0 W1 W2 W A X Y c d dy hL hmn hv hy hM hX hY e0 e1 e2=>by
  have hO:=qg hL.red;have hib:JP m L x:=ziG hO (by omega) hv (by rw [HVL.out,hmn]) (ziH hL.red (by rw [HVL.out,hmn]) HV8.out);exact ⟨zpZ hM.a hL hmn hX HVL.out (fun a ha=>by have :=HV8.out a ha;omega) (by rw [<-hmn];exact zpX hO (by omega) hv) hib hy hY,hib⟩)
 unfold zau at HFP;unfold ziI at HIT;clear hb e6 e7 ztm;go_enter Tryz.func5,Tryz.ntmps5;go_upto_region 5 with (first
  |(go_at_call 13;refine (HG.out _ Zi).mono ?_;rintro e w1 ⟨g,m,A1,c1,rfl,-,hLL,zrc,-,hM1,hc1,hc2,hs1⟩;have HM:=Zh hM1;have HR:=Zh (And.intro hLL zrc);clear hM1 hLL zrc)
  |(go_at_call 14;refine (HVC.out _ Zi).mono ?_;rintro e w2 ⟨g2,rfl,-,hR2,hs2⟩;have HX:=Zh hR2.ints;clear hR2)
  |(go_at_call 15;refine (HFP.out m w1 _ _ _ _ _ HR.out.1 HR.out.2 HM.out hc1 hc2 (HX.out.ext Zi) Zi).mono ?_;rintro e w3 ⟨B3,k3,L,rfl,hL3,hl3,hC3,hs3⟩;have HC3:=Zh hC3;have HL3:=Zh hL3;clear hC3 hL3)
  |(go_at_call 22;refine (HIT.out m w1 _ _ _ HR.out.1 HR.out.2 HM.out Zi).mono ?_;rintro e w4 ⟨IA,ic,vs,L4,rfl,hA4,hV4,hL4,-,hs4⟩;obtain rfl:=VecList.unique HL3.out hL4;have HA4:=Zh hA4;have HV4:=Zh hV4;clear hA4 hV4 hL4))
 have HCT:Hid (CtV w4 B3 (zE m L x)):=Zh (HC3.out.ext Zi);have HP1:Hid (∀c∈zE m L x,1<=c.2/\0<=c.1.2/\c.2=(cntK (L.map (QF m x)) c.1:Int)):=Zh (fun c hc=>prof_at hc);have HP2:Hid (∀(k:Nat) (a b:Ct),(zE m L x)[k]? =some a->(zE m L x)[k+1]? =some b->ZT a.1 b.1):=Zh (fun k a b ha hb=>prof_asc ha hb);have HP3:=Zh (prof_sum m L x);have hpl:=zbg m L x;have HE:Hid (∀(j:Nat) (y:List Int),L[j]? =some y->∃b o B cb,IA=some ⟨b,o,none⟩/\w4.cell? ⟨b,o+j*2,none⟩=some (.int .i64 (zg m y))/\w4.cell? ⟨b,o+j*2+1,none⟩=some (.slice B n cb)/\Ints w4 B 2 .i64 y/\b<w4.heap.size):=Zh (fun j y hy=>by
  obtain ⟨B,cb,a1,a2,a3,-⟩:=HV4.out.2 j (zg m y,y) (by rw [List.getElem?_map,hy];rfl);obtain ⟨b,o,hA,h1,h2⟩:=HA4.out.at_ a1;obtain ⟨b',o',hA',h1',-⟩:=HA4.out.at_ a2;rw [hA] at hA';injection hA' with hA'
  injection hA' with z1 z2
  subst z1 z2;have hyl:y.length=n:=by rw [((HL3.out.mem y).1 (Zm hy)).1];exact HR.out.2
  simp only [hyl] at h1';exact ⟨b,o,B,cb,hA,h1,by rw [Nat.add_assoc];exact h1',a3,h2⟩)
 have HIM:Hid (∀(y:List Int) (W:World) Y dy,y∈L->Ints w4 Y 2 .i64 y->Ext w4 W->Calls Tryz.prog 23 #[.slice A1 n c1,.slice (some ⟨g2,0,none⟩) n n,.slice Y n dy] W (zw W (.tuple #[.int .i64 (zA (zN m y) x),.bool true]))/\-4611686018427387904<=zA (zN m y) x/\zA (zN m y) x<=4611686018427387904):=Zh (fun y W Y dy hy hY e=>by
  have hx24:Ext w2 W:=(Zi:Ext w2 w4).trans e;have hx14:Ext w1 W:=(Zi:Ext w1 w4).trans e;obtain ⟨h1,h2⟩:=HIN.out m L y w1 w2 w4 W A1 (some ⟨g2,0,none⟩) Y c1 n dy HR.out.1 HR.out.2 HL3.out hy HM.out HX.out hY hx14 hx24 e;exact ⟨h1,h2 y hy⟩)
 obtain ⟨p,hp⟩:∃p,p=zE m L x:=⟨_,rfl⟩;rw [<-hp] at HCT HP1 HP2 HP3 hpl |-
 clear hp;obtain ⟨N,hN⟩:∃N,L.length=N:=⟨_,rfl⟩;obtain ⟨pl,hpe⟩:∃pl,p.length=pl:=⟨_,rfl⟩;rw [hN] at hl3 hpl HP3 |-
 rw [hpe] at hpl |-
 have HNN:=Zh (And.intro hN hpe);have HCB:Hid (∀q,(cntK (L.map (QF m x)) q:Int)<=N):=Zh (fun q=>by
  have :=cntK_le (L.map (QF m x)) q;rw [List.length_map,hN] at this;omega)
 have zr0:Ext w w4:=Zi;clear hN hpe HC3 HL3 HA4 HV4 HIN HIT HFP HG HVC HV8 HVL HM HX HR;go_wp2_with fail
 go_loopw [13,14,15,16,18,19,20,43,96] (fun sm _ _ _ _ _ _ i _ wr=>∃(k:Nat) (S:Int),k<=pl/\i= .int .i64 k/\sm= .int .i64 S/\0<=S/\S<=8000*(k:Int)/\Hid (((p.take k).map Prod.snd).sum=S)/\Ext w4 wr) (fun _ _ _ _ _ _ _ i _ _=>pl-(intOf i).toNat)
 case atStart=>exact ⟨0,0,by omega,rfl,rfl,by omega,by omega,Zh rfl,Zi⟩
 case round=>
  obtain ⟨k,S,hk,rfl,rfl,hS0,hS1,HS,hxr⟩:=hrel;by_cases hlt:k<pl
  ·obtain ⟨⟨⟨q1,q2⟩,q3⟩,hz⟩:∃z,p[k]? =some z:=⟨_,Ze (by rw [HNN.out.2];exact hlt)⟩;obtain ⟨b1,o1,rfl,e1,e2,e3,e4⟩:=(HCT.out.ext hxr).at_ hz;obtain ⟨hq3,hq2,zrR⟩:=HP1.out _ (Zm hz);have hcb:=HCB.out (q1,q2);simp only at e1 e2 e3 hq3 hq2 zrR;rw [<-zrR] at hcb;have zqb:=Zh zrR;have HSN:Hid (((p.take (k+1)).map Prod.snd).sum=S+q3):=Zh (by
    rw [List.take_add_one,hz,List.map_append,List.sum_append,HS.out];simp)
   have hd1:decide (q3<1)=false:=by simp;omega
   have hd2:decide (q2<0)=false:=by simp;omega
   obtain ⟨wC,hwC⟩:∃wC,wC=wr.alloc (.cells #[.int .i64 q1,.int .i64 q2,.int .i64 q3] 45):=⟨_,rfl⟩;have hxC:Ext wr wC:=by rw [hwC];infer_instance
   have hbC:wC.heap[wr.heap.size]? =some (.cells #[.int .i64 q1,.int .i64 q2,.int .i64 q3] 45 (0,0)):=by rw [hwC];exact heap_alloc_new wr _
   have HKC:Hid (∀W,Ext wC W->W.cell? ⟨wr.heap.size,0,none⟩=some (.int .i64 q1)/\W.cell? ⟨wr.heap.size,1,none⟩=some (.int .i64 q2)/\W.cell? ⟨wr.heap.size,2,none⟩=some (.int .i64 q3)):=Zh (fun W e=>(Qi (zi e hbC)).1);have HZ:=Zh hz;have hx4C:Ext w4 wC:=hxr.trans hxC;have HWC:=Zh hwC;clear zrR hbC hwC hz;go_upto_region 9 with fail
   rw [<-HWC.out];go_cut [93] (fun cv W=>cv= .bool false/\Ext wC W)
   case first=>as_aux_lemma=>
    obtain ⟨k0,k1,k2⟩:=HKC.out wC (Ext.refl wC);rcases Nat.eq_zero_or_pos k with rfl |hkp
    ·go_quiet (fail)
     go_wp2_with fail
     go_meet
     exact ⟨rfl,Zi⟩
    ·obtain ⟨kp,hkk⟩:∃kp,kp+1=k:=⟨k-1,by omega⟩;obtain ⟨⟨⟨r1,r2⟩,r3⟩,hzp⟩:∃z,p[kp]? =some z:=⟨_,Ze (by rw [HNN.out.2];omega)⟩;have hlk:=HP2.out kp _ _ hzp (by rw [hkk];exact HZ.out);obtain ⟨b2,o2,hb2,g1,g2,g3,g4⟩:=(HCT.out.ext hx4C).at_ hzp;injection hb2 with hb2
     injection hb2 with hb2a hb2b
     subst hb2a hb2b;simp only at g1 g2 g3;have hkw:IntKind.i64.wrap ((k:Int)-1)=(k:Int)-1:=IntWalk.i64_in _ (by omega);have hkn:((k:Int)-1).toNat=kp:=by omega
     have hk0:(0:Int)<=(k:Int)-1:=by omega
     have hk1:(k:Int)-1<(pl:Int):=by omega
     have hkg:decide ((k:Int)>0)=true:=by simp;omega
     clear hkk hzp;rcases hlk with h |⟨h,h'⟩
     ·simp only at h;have dd1:decide (r1<q1)=true:=by simpa using h
      go_quiet (fail)
      go_wp2_with fail
      go_meet
      exact ⟨rfl,Zi⟩
     ·simp only at h h';have dd1:decide (r1<q1)=false:=by simp;omega
      have dd2:(r1==q1)=true:=by simpa using h
      have dd3:decide (r2<q2)=true:=by simpa using h'
      clear h;go_quiet (fail)
      go_wp2_with fail
      go_meet
      exact ⟨rfl,Zi⟩
   case rest=>
    obtain ⟨rfl,hxc⟩:=hcut;have hsC:wr.heap.size<wC.heap.size:=by rw [HWC.out];simp
    obtain ⟨cb,hcbk⟩:∃cb,cb=wr.heap.size:=⟨_,rfl⟩;rw [<-hcbk] at HKC hsC |-
    obtain ⟨wO,hwO⟩:∃wO,wO=wr:=⟨_,rfl⟩;clear hcbk HWC hwO;go_wp2_with fail
    go_loopw [16,18,19,20,96] (fun cn _ _ _ ji wz=>∃(j:Nat) (cc:Int),j<=N/\ji= .int .i64 j/\cn= .int .i64 cc/\0<=cc/\cc<=j/\Hid (cc=(cntK ((L.take j).map (QF m x)) (q1,q2):Int))/\Ext wC wz) (fun _ _ _ _ ji _=>N-(intOf ji).toNat)
    case atStart=>exact ⟨0,0,by omega,rfl,rfl,by omega,by omega,Zh rfl,hxc⟩
    case round=>
     obtain ⟨j,cc,hj,rfl,rfl,hcc0,ztY,HCC,hxz⟩:=hrel;have hx4z:Ext w4 wr:=hx4C.trans hxz;by_cases hlj:j<N
     ·obtain ⟨y,hy⟩:∃y,L[j]? =some y:=⟨_,Ze (by rw [HNN.out.1];exact hlj)⟩;obtain ⟨ib,io,B,cB,rfl,z1,z2,hI,z3⟩:=HE.out j y hy;have oB:Old ib w4:=⟨z3⟩;have oBr:Old ib wr:=⟨Nat.lt_of_lt_of_le z3 hx4z.size⟩;have e1:wr.cell? ⟨ib,io+j*2,none⟩=some (.int .i64 (zg m y)):=(zh w4).trans z1;have e2:wr.cell? ⟨ib,io+j*2+1,none⟩=some (.slice B n cB):=(zh w4).trans z2;have hct:=cnt_take (m:=m) (x:=x) hy (q1,q2)
      have hIN:=fun W (e:Ext w4 W)=>(HIM.out y W B cB (Zm hy) hI e).1
      have hvb:=(HIM.out y wr B cB (Zm hy) hI hx4z).2;generalize zg m y=ny at*
      generalize zA (zN m y) x=v at*
      have HIY:=Zh hIN;obtain ⟨av,hav⟩:∃av,((v.natAbs:Nat):Int)=av:=⟨_,rfl⟩;rw [hav] at hct;have hwv:IntKind.i64.wrap (-v)=-v:=IntWalk.i64_in _ (by omega);have hmx:max v (-v)=av:=by omega
      have hcw:IntKind.i64.wrap (cc+1)=cc+1:=IntWalk.i64_in _ (by omega);have HCN:=Zh hct;clear hIN hct hy z1 z2 hI hav;go_upto_region 16 with (go_at_call 23;refine (HIY.out _ (hx4z.trans Zi)).mono ?_;rintro e w5 ⟨rfl,hs5⟩;have hb5:=(Zi:BlkAt wr.heap.size #[.int .i64 ny,.slice B n cB] 47 w5).eq;obtain ⟨t1,t2,-,-,t5⟩:=zK hb5;clear hb5)
      have oY:Old wr.heap.size w5:=⟨t5⟩;have hx5:Ext wr w5:=Zi;obtain ⟨k0,k1,k2⟩:=HKC.out w5 (hxz.trans hx5);have oC:Old cb w5:=⟨Nat.lt_of_lt_of_le hsC (hxz.trans hx5).size⟩;by_cases h1:ny=q1
      ·have dd1:(ny==q1)=true:=by simpa using h1
       by_cases h2:av=q2
       ·have dd2:(av==q2)=true:=by simpa using h2
        have HC2:Hid (cc+1=(cntK ((L.take (j+1)).map (QF m x)) (q1,q2):Int)):=Zh (by rw [HCN.out,<-HCC.out,if_pos (by rw [h1,h2])]);clear h1 h2;go_wp2_with fail
        exact ⟨⟨j+1,cc+1,by omega,by go_num,rfl,by omega,by omega,HC2,hxz.trans (hx5.trans Zi)⟩,by simp [intOf];omega⟩
       ·have dd2:(av==q2)=false:=by simpa using h2
        have HC2:Hid (cc=(cntK ((L.take (j+1)).map (QF m x)) (q1,q2):Int)):=Zh (by rw [HCN.out,<-HCC.out,if_neg (by intro h;injection h with h3 h4;exact h2 h4)];omega);clear h1 h2;go_wp2_with fail
        exact ⟨⟨j+1,cc,by omega,by go_num,rfl,by omega,by omega,HC2,hxz.trans (hx5.trans Zi)⟩,by simp [intOf];omega⟩
      ·have dd1:(ny==q1)=false:=by simpa using h1
       have HC2:Hid (cc=(cntK ((L.take (j+1)).map (QF m x)) (q1,q2):Int)):=Zh (by rw [HCN.out,<-HCC.out,if_neg (by intro h;injection h with h3 h4;exact h1 h3)];omega);clear h1;go_wp2_with fail
       exact ⟨⟨j+1,cc,by omega,by go_num,rfl,by omega,by omega,HC2,hxz.trans (hx5.trans Zi)⟩,by simp [intOf];omega⟩
     ·obtain rfl:j=N:=by omega
      have hce:cc=q3:=by
       have h:=HCC.out;rw [List.take_of_length_le (by rw [HNN.out.1];exact Zr)] at h;rw [h,zqb.out]
      subst hce;obtain ⟨k0,k1,k2⟩:=HKC.out wr hxz;have oC:Old cb wr:=⟨Nat.lt_of_lt_of_le hsC hxz.size⟩;have dd1:(cc !=cc)=false:=by simp
      have hsw:IntKind.i64.wrap (S+cc)=S+cc:=IntWalk.i64_in _ (by omega);go_wp2_with fail
      exact ⟨⟨k+1,S+cc,by omega,by go_num,rfl,by omega,by omega,HSN,hx4C.trans (hxz.trans Zi)⟩,by simp [intOf];omega⟩
  ·obtain rfl:k=pl:=by omega
   have hSN:S=(N:Int):=by
    have h:=HS.out;rw [List.take_of_length_le (by rw [HNN.out.2];exact Zr),HP3.out] at h;exact h.symm
   have hdd:((N:Int)==(N:Int))=true:=by simp
   subst hSN;go_wp2_with (go_at_call 18;refine (HAW.out _).mono ?_;rintro e w6 ⟨rfl,hs6⟩)
   go_ret;exact ⟨rfl,(zr0.trans (hxr.trans Zi)).toStep⟩
end Go.Proofs.YtcmkopogafchiaaGreat

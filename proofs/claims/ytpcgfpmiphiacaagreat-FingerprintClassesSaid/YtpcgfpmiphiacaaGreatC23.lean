import Derived.Test.YtpcgfpmiphiacaaGreatC22
import Derived.StillTailTactics
import Derived.Test.YtpcgfpmiphiacaaGreatCSc
set_option maxHeartbeats 8000000
set_option linter.unusedVariables false
set_option linter.unusedSimpArgs false
namespace Go.Proofs.YtpcgfpmiphiacaaGreat
open Go.RowKit
open List (drop_eq_getElem_cons drop_eq_nil_of_le)
variable {cs cur:Array Value} {L m:List (List Int)} {x y:List Int} {vs:List Value} {b c cnt d dc g k mb n nc r sb size zf:Nat} {fr:Nat×Nat} {A B DA LA NA X:Option Addr} {T:TypeId} {LV:Value} {W a w w' w0 wr:World}
def CtV(w:World)(A:Option Addr)(p:List Ct):Prop:=∃te,Arr w A te (zz p)
theorem CtV.ext{p:List Ct}(h:CtV w A p)(hx:Ext w w'):CtV w' A p:=by
 obtain⟨te,h⟩:=h;exact⟨te,h.ext hx⟩
theorem CtV.at_{p:List Ct}(h:CtV w A p){i:Nat}{c:Ct}(hi:p[i]? =some c):∃b o,A=some ⟨b,o,none⟩/\w.cell? ⟨b,o+i*3,none⟩=some (.int .i64 c.1.1)/\w.cell? ⟨b,o+i*3+1,none⟩=some (.int .i64 c.1.2)/\w.cell? ⟨b,o+i*3+2,none⟩=some (.int .i64 c.2)/\b<w.heap.size:=by
 obtain⟨te,h⟩:=h;obtain⟨f0,f1,f2⟩:=zcB p i c hi;obtain⟨b,o,rfl,h0,hb⟩:=h.at_ f0;obtain⟨b',o',hA',h1,-⟩:=h.at_ f1;injection hA' with hA'
 injection hA' with z1 z2
 subst z1 z2;obtain⟨b',o',hA',h2,-⟩:=h.at_ f2;injection hA' with hA'
 injection hA' with z1 z2
 subst z1 z2;exact⟨b,o,rfl,h0,h1,h2,hb⟩
theorem zpC(w w':World)(x y z x' y' z':Value)(T T':TypeId)[h:Ext ((w.alloc (.cells #[x,y,z] T)).alloc (.cells #[x',y',z'] T')) w']:
  (w'.cell? ⟨w.heap.size,0,none⟩=some x/\w'.cell? ⟨w.heap.size,1,none⟩=some y/\w'.cell? ⟨w.heap.size,2,none⟩=some z)/\w'.cell? ⟨w.heap.size+1,0,none⟩=some x'/\w'.cell? ⟨w.heap.size+1,1,none⟩=some y'/\w'.cell? ⟨w.heap.size+1,2,none⟩=some z':=by
 have h1:Ext (w.alloc (.cells #[x,y,z] T)) w':=Ext.trans Zi h;have h0:w'.heap[w.heap.size]? =some (.cells #[x,y,z] T (0,0)):=zj h1 (heap_alloc_new w _);have h2:w'.heap[w.heap.size+1]? =some (.cells #[x',y',z'] T' (0,0)):=zj h (by
  have:=heap_alloc_new (w.alloc (.cells #[x,y,z] T)) (.cells #[x',y',z'] T');rwa [World.size_alloc]at this)
 exact⟨⟨by simp[World.cell?,h0],by simp[World.cell?,h0],by simp[World.cell?,h0]⟩,by simp[World.cell?,h2],by simp[World.cell?,h2],by simp[World.cell?,h2]⟩
theorem zpD{a b c:Int}(h1:w.cell? ⟨g,0,none⟩=some (.int .i64 a))(h2:w.cell? ⟨g,1,none⟩=some (.int .i64 b))(h3:w.cell? ⟨g,2,none⟩=some (.int .i64 c)):
  Cq 80 #[.slice (some ⟨g,0,none⟩) 3 3] w (Zv w (.int .i64 (ZN a (ZN b c)))):=by
 go_enter Tryz.func80,Tryz.ntmps80;go_wp2;go_loop [5,8] (fun _ i=>(i= .int .i64 0)∨(i= .int .i64 1/\a=0)∨(i= .int .i64 2/\a=0/\b=0)∨(i= .int .i64 3/\a=0/\b=0/\c=0)) (fun _ i=>3-(intOf i).toNat)
 case atStart=>exact .inl rfl
 case round=>
  rcases hrel with rfl|⟨rfl,ha⟩|⟨rfl,ha,hb⟩|⟨rfl,ha,hb,hc⟩
  ·by_cases h0:a=0
   ·have hb0:(a !=0)=false:=by simp[h0]
    have H0:=Zh h0;clear h0;go_wp2;exact⟨.inr (.inl ⟨rfl,H0.out⟩),by decide⟩
   ·have hb0:(a !=0)=true:=by simp[h0]
    have HV:Hid (ZN a (ZN b c)=a):=Zh (if_neg h0);clear h0;go_wp2;go_ret;exact⟨by rw[HV.out];rfl,rfl⟩
  ·have HA:=Zh ha;by_cases h0:b=0
   ·have hb0:(b !=0)=false:=by simp[h0]
    have H0:=Zh h0;clear h0 ha;go_wp2;exact⟨.inr (.inr (.inl ⟨rfl,HA.out,H0.out⟩)),by decide⟩
   ·have hb0:(b !=0)=true:=by simp[h0]
    have HV:Hid (ZN a (ZN b c)=b):=Zh ((if_pos ha).trans (if_neg h0));clear h0 ha;go_wp2;go_ret;exact⟨by rw[HV.out];rfl,rfl⟩
  ·have HA:=Zh ha;have HB:=Zh hb;by_cases h0:c=0
   ·have hb0:(c !=0)=false:=by simp[h0]
    have H0:=Zh h0;clear h0 ha hb;go_wp2;exact⟨.inr (.inr (.inr ⟨rfl,HA.out,HB.out,H0.out⟩)),by decide⟩
   ·have hb0:(c !=0)=true:=by simp[h0]
    have HV:Hid (ZN a (ZN b c)=c):=Zh ((if_pos ha).trans (if_pos hb));clear h0 ha hb;go_wp2;go_ret;exact⟨by rw[HV.out];rfl,rfl⟩
  ·have HV:Hid (ZN a (ZN b c)=0):=Zh (by unfold ZN;rw[if_pos ha,if_pos hb,hc]);clear ha hb hc;go_wp2;go_ret;exact⟨by rw[HV.out];rfl,rfl⟩
theorem zix(a b:Int):Cq 41 #[.int .i64 a,.int .i64 b] w (Zv w (.int .i64 (zk a b))):=by
 by_cases h1:a<b
 ·have HC:=Zh (ql h1);have d1:decide (a<b)=true:=by simpa using h1
  clear h1;go_enter Tryz.func41,Tryz.ntmps41;go_wp2;go_ret;exact⟨by rw[HC.out];rfl,rfl⟩
 ·have d1:decide (a<b)=false:=by simpa using h1
  by_cases h2:b<a
  ·have HC:=Zh (qH h2);have d2:decide (b<a)=true:=by simpa using h2
   clear h1 h2;go_enter Tryz.func41,Tryz.ntmps41;go_wp2;go_ret;exact⟨by rw[HC.out];rfl,rfl⟩
  ·have HC:=Zh (q9 (show a=b by omega));have d2:decide (b<a)=false:=by simpa using h2
   clear h1 h2;go_enter Tryz.func41,Tryz.ntmps41;go_wp2;go_ret;exact⟨by rw[HC.out];rfl,rfl⟩
set_option maxRecDepth 20000 in
theorem ziy(a b:Ct):
  Cq 40 #[.agg #[.int .i64 a.1.1,.int .i64 a.1.2,.int .i64 a.2],.agg #[.int .i64 b.1.1,.int .i64 b.1.2,.int .i64 b.2]] w fun e w'=>e= .returned (.int .i64 (Z1 a b))/\∃q os,w'=Sort.grow (w.drewN q) os:=by
 obtain⟨⟨a1,a2⟩,a3⟩:=a;obtain⟨⟨b1,b2⟩,b3⟩:=b;simp only;obtain⟨k1,hk1⟩:∃k,k=zk a1 b1:=⟨_,rfl⟩;obtain⟨k2,hk2⟩:∃k,k=zk a2 b2:=⟨_,rfl⟩;obtain⟨k3,hk3⟩:∃k,k=zk a3 b3:=⟨_,rfl⟩;have hc1:=fun W=>zb6 (w:=W) a1 b1
 have hc2:=fun W=>zb6 (w:=W) a2 b2
 have hc3:=fun W=>zix (w:=W) a3 b3
 rw[<-hk1]at hc1;rw[<-hk2]at hc2;rw[<-hk3]at hc3;unfold Zv at hc1 hc2 hc3;have HK:Hid (Z1 ((a1,a2),a3) ((b1,b2),b3)=ZN k1 (ZN k2 k3)):=Zh (by rw[hk1,hk2,hk3];rfl);have H1:=Zh hc1;have H2:=Zh hc2;have H3:=Zh hc3;clear hc1 hc2 hc3 hk1 hk2 hk3;go_enter Tryz.func40,Tryz.ntmps40;go_wp2_with fail
 have hb:=zpC w ((w.alloc (.cells #[.int .i64 a1,.int .i64 a2,.int .i64 a3] 71)).alloc (.cells #[.int .i64 b1,.int .i64 b2,.int .i64 b3] 71)) (.int .i64 a1) (.int .i64 a2) (.int .i64 a3) (.int .i64 b1) (.int .i64 b2) (.int .i64 b3) 71 71;have hWe:∃os,(w.alloc (.cells #[.int .i64 a1,.int .i64 a2,.int .i64 a3] 71)).alloc (.cells #[.int .i64 b1,.int .i64 b2,.int .i64 b3] 71)=Sort.grow w os:=⟨_,by rw[Sort.alloc_eq_grow,Sort.alloc_eq_grow,Sort.grow_grow]⟩
 have HWE:=Zh hWe;clear hWe;generalize (w.alloc (.cells #[.int .i64 a1,.int .i64 a2,.int .i64 a3] 71)).alloc (.cells #[.int .i64 b1,.int .i64 b2,.int .i64 b3] 71)=W at*
 obtain⟨⟨p1,p2,p3⟩,p4,p5,p6⟩:=hb;refine wp_region_still_tail 15 (by kernel_rfl) (by kernel_rfl) ?_;simp only[List.take_succ_cons,List.take_zero,List.drop_succ_cons,List.drop_zero];iterate 4 still_step
 still_call ((H1.out _).mono fun _ _ h=>⟨h.1,h.2.symm⟩)
 iterate 4 still_step
 still_call ((H2.out _).mono fun _ _ h=>⟨h.1,h.2.symm⟩)
 iterate 4 still_step
 still_call ((H3.out _).mono fun _ _ h=>⟨h.1,h.2.symm⟩)
 refine wpStill_nil ?_;change wpList _ _ _ _ _ W.drew
 clear p1 p2 p3 p4 p5 p6;go_wp2_with (go_at_call 80;refine(zpD (a:=k1) (b:=k2) (c:=k3) (by simp[go_sem]) (by simp[go_sem]) (by simp[go_sem])).mono ?_;rintro e w' ⟨rfl,rfl⟩)
 go_ret;obtain⟨os,rfl⟩:=HWE.out;refine⟨by rw[HK.out];rfl,1,os++#[.cells #[.int .i64 k1,.int .i64 k2,.int .i64 k3] 3],?_⟩;rw[Sort.alloc_eq_grow,<-Sort.grow_grow];rfl
theorem zpE{p q:List Ct}{x y:Ct}(hp:p[k]? =some x)(hq:q[k]? =some y):zX (p.drop k) (q.drop k)=if x=y then zX (p.drop (k+1)) (q.drop (k+1)) else decide (ZD x y):=by
 obtain⟨h1,rfl⟩:=Zg.1 hp;obtain⟨h2,rfl⟩:=Zg.1 hq;rw[drop_eq_getElem_cons h1,drop_eq_getElem_cons h2];conv=>lhs;unfold zX
theorem ziz{p q:List Ct}(h:k=p.length∨k=q.length)(h1:k<=p.length)(h2:k<=q.length):zX (p.drop k) (q.drop k)=decide (p.length<q.length):=by
 rcases Zl k q.length with h3|h3
 ·have h4:k=p.length:=by omega
  rw[drop_eq_nil_of_le (by omega:p.length<=k),drop_eq_getElem_cons h3,decide_eq_true (by omega)];rfl
 ·rw[drop_eq_nil_of_le (by omega:q.length<=k),decide_eq_false (by omega)]
  cases p.drop k<;>rfl
theorem ziA{x y:Ct}(h:x≠y):(x.1.1==y.1.1)=false∨((x.1.1==y.1.1)=true/\(x.1.2==y.1.2)=false)∨((x.1.1==y.1.1)=true/\(x.1.2==y.1.2)=true/\(x.2==y.2)=false):=by
 by_cases h1:x.1.1=y.1.1
 ·by_cases h2:x.1.2=y.1.2
  ·refine .inr (.inr ⟨by simp[h1],by simp[h2],?_⟩);simp only[beq_eq_false_iff_ne,ne_eq];exact fun h3=>h (Prod.ext (Prod.ext h1 h2) h3)
  ·exact .inr (.inl ⟨by simp[h1],by simp[h2]⟩)
 ·exact .inl (by simp[h1])
theorem ziB(a b:Ct):
  Cq 98 #[.agg #[.int .i64 a.1.1,.int .i64 a.1.2,.int .i64 a.2],.agg #[.int .i64 b.1.1,.int .i64 b.1.2,.int .i64 b.2]] w (zy w (.bool (decide (ZD a b)))):=by
 obtain⟨⟨a1,a2⟩,a3⟩:=a;obtain⟨⟨b1,b2⟩,b3⟩:=b;simp only;by_cases h1:a1=b1
 ·have d1:(a1 !=b1)=false:=by simp[h1]
  by_cases h2:a2=b2
  ·have d2:(a2 !=b2)=false:=by simp[h2]
   have HV:Hid (decide (ZD ((a1,a2),a3) ((b1,b2),b3))=decide (a3<b3)):=Zh (by unfold ZD;simp[h1,h2]);rw[HV.out];clear h1 h2 HV;go_enter Tryz.func98,Tryz.ntmps98;go_wp2_with fail
   go_ret;exact⟨rfl,Step.of _ _⟩
  ·have d2:(a2 !=b2)=true:=by simp[h2]
   have HV:Hid (decide (ZD ((a1,a2),a3) ((b1,b2),b3))=decide (a2<b2)):=Zh (by unfold ZD;simp[h1,h2]);rw[HV.out];clear h1 h2 HV;go_enter Tryz.func98,Tryz.ntmps98;go_wp2_with fail
   go_ret;exact⟨rfl,Step.of _ _⟩
 ·have d1:(a1 !=b1)=true:=by simp[h1]
  have HV:Hid (decide (ZD ((a1,a2),a3) ((b1,b2),b3))=decide (a1<b1)):=Zh (by unfold ZD;simp[h1]);rw[HV.out];clear h1 HV;go_enter Tryz.func98,Tryz.ntmps98;go_wp2_with fail
  go_ret;exact⟨rfl,Step.of _ _⟩
theorem zeC{p q:List Ct}(hA:CtV w0 A p)(hB:CtV w0 B q)(h1:p.length<=1099511627776)(h2:q.length<=1099511627776)[hx:Ext w0 w]:
  Cq 50 #[.slice A p.length c,.slice B q.length d] w (zy w (.bool (zX p q))):=by
 have zr3:=Zh (fun k=>ziz (p:=p) (q:=q) (k:=k));obtain⟨n,hn⟩:=Xz p.length;obtain⟨m,hm⟩:=Xz q.length;rw[<-hn]at h1|-
 rw[<-hm]at h2|-
 have HN:=Zh (And.intro hn hm);clear hn hm;go_enter Tryz.func50,Tryz.ntmps50;go_wp2_with fail
 go_loopw [5] (fun i wr=>∃k:Nat,k<=n/\k<=m/\i= .int .i64 k/\Hid (zX p q=zX (p.drop k) (q.drop k))/\Ext w wr) (fun i _=>n-(intOf i).toNat)
 case atStart=>exact⟨0,by omega,by omega,rfl,Zh rfl,Zi⟩
 case round=>
  obtain⟨k,hk1,hk2,rfl,HE,hxr⟩:=hrel;have hxw:Ext w0 wr:=Ext.trans hx hxr;by_cases hk:k<n/\k<m
  ·obtain⟨hka,hkb⟩:=hk;obtain⟨⟨⟨x1,x2⟩,x3⟩,hxx⟩:∃z,p[k]? =some z:=⟨_,Ze (by have:=HN.out.1;omega)⟩;obtain⟨⟨⟨y1,y2⟩,y3⟩,hyy⟩:∃z,q[k]? =some z:=⟨_,Ze (by have:=HN.out.2;omega)⟩;obtain⟨b1,o1,rfl,e1,e2,e3,e4⟩:=(hA.ext hxw).at_ hxx;obtain⟨b2,o2,rfl,f1,f2,f3,f4⟩:=(hB.ext hxw).at_ hyy;simp only at e1 e2 e3 f1 f2 f3;have hst:=zpE hxx hyy;rw[<-HE.out]at hst;have HST:=Zh hst;clear hst hxx hyy HE;by_cases hxy:((x1,x2),x3)=(((y1,y2),y3):Ct)
   ·have HS2:Hid (zX p q=zX (p.drop (k+1)) (q.drop (k+1))):=Zh (by have:=HST.out;rwa [if_pos hxy]at this);simp only[Prod.mk.injEq]at hxy;obtain⟨⟨rfl,rfl⟩,rfl⟩:=hxy;clear HST;go_wp2_with fail
    go_quiet (fail)
    go_wp2_with fail
    exact⟨⟨k+1,by omega,by omega,by go_num,HS2,Zi⟩,by simp[intOf];omega⟩
   ·have HS2:Hid (zX p q=decide (ZD ((x1,x2),x3) ((y1,y2),y3))):=Zh (by have:=HST.out;rwa [if_neg hxy]at this);have HB:=Zh (fun W=>ziB (w:=W) ((x1,x2),x3) ((y1,y2),y3));have hor:=ziA hxy;simp only at hor;generalize decide (ZD ((x1,x2),x3) ((y1,y2),y3))=r at*
    clear HST hxy;have oX:Old b1 wr:=⟨e4⟩;have oY:Old b2 wr:=⟨f4⟩;rcases hor with g1|⟨g1,g2⟩|⟨g1,g2,g3⟩<;>
    ·go_wp2_with fail
     go_quiet (fail)
     go_wp2_with fail
     go_region_held3 (fun w'=>(w'.cell? ⟨b1,o1+k*3,none⟩=some (.int .i64 x1)/\w'.cell? ⟨b1,o1+k*3+1,none⟩=some (.int .i64 x2)/\w'.cell? ⟨b1,o1+k*3+2,none⟩=some (.int .i64 x3))/\w'.cell? ⟨b2,o2+k*3,none⟩=some (.int .i64 y1)/\w'.cell? ⟨b2,o2+k*3+1,none⟩=some (.int .i64 y2)/\w'.cell? ⟨b2,o2+k*3+2,none⟩=some (.int .i64 y3)) ((simp only[zi wr];exact⟨⟨e1,e2,e3⟩,f1,f2,f3⟩))
      ((go_at_call 98;refine(HB.out _).mono ?_;rintro e w1 ⟨rfl,hs1⟩))
     all_goals
      go_wp2_with fail
      go_ret;exact⟨by rw[HS2.out];rfl,Step.of _ _⟩
  ·have HV:Hid (zX p q=decide (n<m)):=Zh (by
    rw[HE.out,HN.out.1,HN.out.2];have h3:=HN.out.1;have h4:=HN.out.2;exact ziz (by omega) (by omega) (by omega))
   clear HE;by_cases h3:k<n
   ·obtain rfl:k=m:=by omega
    clear hk;go_wp2_with fail
    go_ret;exact⟨by rw[HV.out];rfl,Step.of _ _⟩
   ·obtain rfl:k=n:=by omega
    clear hk h3;go_wp2_with fail
    go_ret;exact⟨by rw[HV.out];rfl,Step.of _ _⟩
theorem ziC{p q:List Ct}(hA:CtV w0 A p)(hB:CtV w0 B q)(h1:p.length<=1099511627776)(h2:q.length<=1099511627776)[hx:Ext w0 w]:
  Cq 24 #[.slice A p.length c,.slice B q.length d] w (zy w (.bool (decide (p=q)))):=by
 have H1:=Zh (fun W(e:Ext w0 W)=>zeC (w:=W) (c:=c) (d:=d) hA hB h1 h2);have H2:=Zh (fun W(e:Ext w0 W)=>zeC (w:=W) (c:=d) (d:=c) hB hA h2 h1);have hs:=zpw p q;have k1:True:=trivial;have HS:=Zh hs;generalize zX p q=r at*
 generalize zX q p=s at*
 rw[<-HS.out];clear hs HS;generalize p.length=n at*
 generalize q.length=m at*
 cases r
 ·go_enter Tryz.func24,Tryz.ntmps24;go_wp2_with (first|(go_at_call 50;have _t:=k1;clear _t k1;refine(H1.out _ Zi).mono ?_;rintro e w1 ⟨rfl,hs1⟩)|(go_at_call 50;refine(H2.out _ Zi).mono ?_;rintro e w2 ⟨rfl,hs2⟩))
  go_ret;exact⟨by simp,Step.of _ _⟩
 ·go_enter Tryz.func24,Tryz.ntmps24;go_wp2_with (go_at_call 50;refine(H1.out _ Zi).mono ?_;rintro e w1 ⟨rfl,hs1⟩)
  go_ret;exact⟨by simp,Step.of _ _⟩
theorem ziD:∀(p:List Ct)(j:Nat),zz (p.take j)=(zz p).take (j*3)
 |[],j=>by simp[zz]
 |c::p,0=>by simp[zz]
 |c::p,j+1=>by
  rw[show (j+1)*3=j*3+1+1+1 by omega];show Qz c++zz (p.take j)=_;rw[ziD p j];rfl
theorem ziE:∀(p:List Ct)(j:Nat),zz (p.drop j)=(zz p).drop (j*3)
 |[],j=>by simp[zz]
 |c::p,0=>by simp
 |c::p,j+1=>by
  rw[show (j+1)*3=j*3+1+1+1 by omega];show zz (p.drop j)=_;rw[ziE p j];rfl
theorem zcE(p:List Ct):∀u∈zz p,u.oneCell'=true:=fun u hu=>by
 obtain⟨c,-,h⟩:=List.mem_flatMap.1 hu;simp only[Qz,List.mem_cons,List.not_mem_nil,or_false]at h;rcases h with rfl|rfl|rfl<;>rfl
theorem Arr.takeC{e:TypeId}(h:Arr w A e vs)(k:Nat):Arr w A e (vs.take k):=fun h0=>by
 obtain⟨b,o,cs,fr,hA,hb,hc⟩:=h (by rw[List.length_take]at h0;omega);refine⟨b,o,cs,fr,hA,hb,fun j u hu=>?_⟩;rw[List.getElem?_take]at hu;split at hu
 ·exact hc _ _ hu
 ·cases hu
theorem ziF(a b:Int):IntKind.i64.wrap (a+IntKind.i64.wrap b)=IntKind.i64.wrap (a+b):=by simp only[IntKind.wrap_i64];omega
theorem zeD(a b:Int):IntKind.i64.wrap (IntKind.i64.wrap a+b)=IntKind.i64.wrap (a+b):=by simp only[IntKind.wrap_i64];omega
theorem w64(n:Int):wrap64 n=IntKind.i64.wrap n:=by
 simp only[wrap64,IntKind.wrap_i64]<;>omega
theorem ziG:∀x y:List Int,zG x (y.take x.length)=zG x y
 |[],y=>by rw[za2,za2]
 |a::x,[]=>rfl
 |a::x,b::y=>by
  simp only[List.length_cons,List.take_succ_cons,zG];rw[ziG x y]
def qb(x y:List Int):Int:=IntKind.i64.wrap (zG x y)
theorem zeE{Y:Option Addr}(hX:IntsA w0 X x)(hY:IntsA w0 Y y)(hxn:x.length=n)(hyn:y.length=k)(hl:n<=k)(hn:n<=1099511627776)[hx:Ext w0 w]:
  Cq 36 #[.slice X n c,.slice Y k d] w (Zv w (.int .i64 (qb x y))):=by
 have hX0:=hX.ext hx;have hY0:=hY.ext hx;have HXN:=Zh hxn;have HYN:=Zh hyn;clear hxn hyn hX hY;go_enter Tryz.func36,Tryz.ntmps36;go_wp2;go_loop [5,6,7,10] (fun s _ _ i=>∃q:Nat,q<=n/\i= .int .i64 q/\s= .int .i64 (qb (x.take q) (y.take q))) (fun _ _ _ i=>n-(intOf i).toNat)
 case atStart=>exact⟨0,by omega,rfl,rfl⟩
 case round=>
  obtain⟨q,hq,rfl,rfl⟩:=hrel;by_cases hlt:q<n
  ·obtain⟨b1,o1,a,rfl,ha,e1,e2⟩:=hX0.at_ (i:=q) (by rw[HXN.out];exact hlt);obtain⟨b2,o2,b,rfl,hb,f1,f2⟩:=hY0.at_ (i:=q) (by rw[HYN.out];omega);have hst:=za3 x y q a b ha hb;have HS:Hid (wrap64 (qb (x.take q) (y.take q)+wrap64 (a*b))=qb (x.take (q+1)) (y.take (q+1))):=Zh (by
    unfold qb;rw[w64,w64,ziF,zeD,hst])
   generalize qb (x.take q) (y.take q)=s at*
   clear hst ha hb;go_wp2;exact⟨⟨q+1,by omega,by go_num,congrArg (Value.int IntKind.i64) HS.out⟩,by simp[intOf];omega⟩
  ·obtain rfl:q=n:=by omega
   have HV:Hid (qb (x.take q) (y.take q)=qb x y):=Zh (by
    have h1:x.take q=x:=List.take_of_length_le (by rw[HXN.out];exact Zr);have h2:zG x (y.take q)=zG x y:=by
     have h3:=ziG x y;rw[HXN.out]at h3;exact h3
    unfold qb;rw[h1,h2])
   rw[HV.out];clear HV;go_wp2;go_ret;exact⟨rfl,rfl⟩
def ZF(m:List (List Int))(x:List Int):List Int:=m.map fun r=>qb r x
theorem zpF(Y:List Int)(q n:Nat)(v:Int)(h:Y[q]? =some v)(hq:q<n):(Y.take q++List.replicate (n-q) 0).set q v=Y.take (q+1)++List.replicate (n-(q+1)) 0:=by
 have hl:(Y.take q).length=q:=by
  have:=(Zg.1 h).1;simp;omega
 have e:List.replicate (n-q) (0:Int)=0::List.replicate (n-(q+1)) 0:=by rw[<-List.replicate_succ];congr 1;omega
 rw[List.set_append_right _ _ (by omega),hl,Nat.sub_self,e,List.set_cons_zero,List.take_add_one,h];simp
def zeF(w:World)(Y:List Int)(e:Ending)(w':World):Prop:=e= .returned (.slice (some ⟨w.heap.size,0,none⟩) Y.length Y.length)/\Row w' w.heap.size 2 .i64 Y/\Step w w'
theorem zpG(h:MatA w0 A m)(hX:IntsA w0 X x)(hxk:x.length=k)(hrl:∀r∈m,r.length<=k)(hk:k<=1099511627776)(hm:m.length<=1099511627776)[hx:Ext w0 w]:
  Cq 35 #[.slice A m.length c,.slice X k d] w (zeF w (ZF m x)):=by
 have h0:=h.ext hx;have hX0:=hX.ext hx;obtain⟨n,hN⟩:=Xz m.length;rw[<-hN]at hm|-
 have hmk:=qf (P:=Tryz.prog) Tryz.underlying35 Qb (by omega) (n:Int) (by omega) (by omega);have HN:=Zh hN;have HXK:=Zh hxk;have HRL:=Zh hrl;obtain⟨Y,hY⟩:=Xz (ZF m x);have HY:=Zh hY;rw[<-hY];have HYl:Hid (Y.length=n):=Zh (by rw[HY.out,HN.out];simp[ZF]);clear hN hxk hrl hY;go_enter Tryz.func35,Tryz.ntmps35;go_wp2;go_loopw [6,7,13] (fun _ _ i wr=>∃q:Nat,q<=n/\i= .int .i64 q/\Row wr w.heap.size 2 .i64 (Y.take q++List.replicate (n-q) 0)/\Ext w wr) (fun _ _ i _=>n-(intOf i).toNat)
 case atStart=>exact⟨0,by omega,rfl,by have:=Row.made w n .i64 2;simpa[qS,zbW] using this,Zi⟩
 case round=>
  obtain⟨q,hq,rfl,hV,hxq⟩:=hrel;by_cases hlt:q<n
  ·obtain⟨wi,rfl⟩:∃wi:World,wi=wr:=⟨_,rfl⟩;have hkm:q<m.length:=by have:=HN.out;omega
   obtain⟨b,o,B,c1,rfl,e1,f1,f2,f3,f4⟩:=h0.at_ (i:=q) (r:=m[q]) (by simp[hkm]);obtain⟨r,hr⟩:=Xz (m[q]);rw[<-hr]at e1 f1 f2;have hrk:=HRL.out m[q] (List.getElem_mem hkm);rw[<-hr]at hrk;have HYk:Hid (Y[q]? =some (qb r x)):=Zh (by rw[HY.out,hr];simp[ZF,hkm]);have HD:=Zh (fun W(e:Ext w W)=>zeE (w:=W) (c:=c1) (d:=d) f1 hX0 rfl HXK.out hrk (by omega));have e3:wi.cell? ⟨b,o+q,none⟩=some (.slice B r.length c1):=(hxq.below.cell (p:=⟨b,o+q,none⟩) f4).trans e1
   have zrT:=Zh (zpF Y q n (qb r x) HYk.out hlt);have hfz:=hV.frozen q;obtain⟨z0,-,hcz⟩:=hV.cell (i:=q) (by have:=HYl.out;simp;omega);have hsz:=hV.lt;have oB:Old b wi:=⟨Nat.lt_of_lt_of_le f4 hxq.size⟩;generalize hDW:qb r x=v at*
   clear hr e1 f1 f2 f4 hDW HYk;go_wp2_with (go_at_call 36;refine(HD.out _ Zi).mono ?_;rintro e w1 ⟨rfl,rfl⟩)
   refine⟨⟨q+1,by omega,by go_num,?_,?_⟩,by simp[intOf];omega⟩
   ·have h2:=hV.set q v;rw[zrT.out]at h2;exact h2
   ·exact hxq.setCell (p:=⟨w.heap.size,q,none⟩) Zr _
  ·obtain rfl:q=n:=by omega
   clear hlt;go_wp2;go_ret;have e:Y.take q++List.replicate (q-q) 0=Y:=by rw[Nat.sub_self,List.take_of_length_le (by rw[HYl.out];omega)];simp
   rw[e]at hV;exact⟨by rw[HYl.out];rfl,hV,Step.of _ _⟩
def GrowD(w w':World):Prop:=∃q os,w'=Sort.grow (w.drewN q) os
theorem GrowD.refl(w:World):GrowD w w:=⟨0,#[],by simp[Sort.grow,World.drewN]⟩
theorem GrowD.trans{b c:World}(h:GrowD a b)(h':GrowD b c):GrowD a c:=by
 obtain⟨q,os,rfl⟩:=h;obtain⟨q',os',rfl⟩:=h';refine⟨q+q',os++os',?_⟩;rw[<-World.drewN_drewN,<-Sort.grow_grow];rfl
theorem GrowD.drew(w:World)(n:Nat):GrowD w (w.drewN n):=⟨n,#[],by simp[Sort.grow];rfl⟩
theorem GrowD.ext(h:GrowD w w'):Ext w w':=by
 have:=zdp h;infer_instance
theorem zpH{p q:List Ct}{x y:Ct}(hp:p[k]? =some x)(hq:q[k]? =some y):Zw (p.drop k) (q.drop k)=if x=y then Zw (p.drop (k+1)) (q.drop (k+1)) else Z1 x y:=by
 obtain⟨h1,rfl⟩:=Zg.1 hp;obtain⟨h2,rfl⟩:=Zg.1 hq;rw[drop_eq_getElem_cons h1,drop_eq_getElem_cons h2];conv=>lhs;unfold Zw
theorem zpI{p q:List Ct}(h:k=p.length∨k=q.length)(h1:k<=p.length)(h2:k<=q.length):Zw (p.drop k) (q.drop k)=zk (p.length:Int) (q.length:Int):=by
 rcases Nat.lt_trichotomy p.length q.length with h3|h3|h3
 ·rw[drop_eq_nil_of_le (by omega:p.length<=k),drop_eq_getElem_cons (by omega:k<q.length),ql (by omega)];rfl
 ·rw[drop_eq_nil_of_le (by omega:p.length<=k),drop_eq_nil_of_le (by omega:q.length<=k),q9 (by omega)];rfl
 ·rw[drop_eq_nil_of_le (by omega:q.length<=k),drop_eq_getElem_cons (by omega:k<p.length),qH (by omega)];rfl
theorem zeG{p q:List Ct}(hA:CtV w A p)(hB:CtV w B q)(h1:p.length<=1099511627776)(_:q.length<=1099511627776):
  Cq 20 #[.slice A p.length c,.slice B q.length d] w fun e w'=>e= .returned (.int .i64 (Zw p q))/\GrowD w w':=by
 have HC:=Zh (fun W=>zix (w:=W) (p.length:Int) (q.length:Int));obtain⟨n,hn⟩:=Xz p.length;obtain⟨m,hm⟩:=Xz q.length;have HN:=Zh (And.intro hn hm);rw[<-hn]at h1 HC|-
 rw[<-hm]at HC|-
 clear hn hm;obtain⟨L,hL⟩:∃L:Nat,L=min n m:=⟨_,rfl⟩;have hL2:min (n:Int) (m:Int)=(L:Int):=by omega
 go_enter Tryz.func20,Tryz.ntmps20;go_wp2_with fail
 try rw[hL2]
 go_loopw [5,11] (fun _ i wr=>∃k:Nat,k<=L/\i= .int .i64 k/\Hid (Zw p q=Zw (p.drop k) (q.drop k))/\GrowD w wr) (fun _ i _=>L-(intOf i).toNat)
 case atStart=>exact⟨0,by omega,rfl,Zh rfl,GrowD.refl _⟩
 case round=>
  obtain⟨k,hk1,rfl,HE,hG⟩:=hrel;have hxw:Ext w wr:=hG.ext;by_cases hk:k<L
  ·obtain⟨⟨⟨x1,x2⟩,x3⟩,hxx⟩:∃z,p[k]? =some z:=⟨_,Ze (by have:=HN.out.1;omega)⟩;obtain⟨⟨⟨y1,y2⟩,y3⟩,hyy⟩:∃z,q[k]? =some z:=⟨_,Ze (by have:=HN.out.2;omega)⟩;obtain⟨b1,o1,rfl,e1,e2,e3,e4⟩:=(hA.ext hxw).at_ hxx;obtain⟨b2,o2,rfl,f1,f2,f3,f4⟩:=(hB.ext hxw).at_ hyy;simp only at e1 e2 e3 f1 f2 f3;have hst:=zpH hxx hyy;rw[<-HE.out]at hst;have HST:=Zh hst;have hkn:k<n:=by omega
   have hkm:k<m:=by omega
   clear hst hxx hyy HE;by_cases hxy:((x1,x2),x3)=(((y1,y2),y3):Ct)
   ·have HS2:Hid (Zw p q=Zw (p.drop (k+1)) (q.drop (k+1))):=Zh (by have:=HST.out;rwa [if_pos hxy]at this);simp only[Prod.mk.injEq]at hxy;obtain⟨⟨rfl,rfl⟩,rfl⟩:=hxy;clear HST;go_wp2_with fail
    go_quiet (fail)
    go_wp2_with fail
    exact⟨⟨k+1,by omega,by go_num,HS2,hG.trans (GrowD.drew _ _)⟩,by simp[intOf];omega⟩
   ·have HS2:Hid (Zw p q=Z1 ((x1,x2),x3) ((y1,y2),y3)):=Zh (by have:=HST.out;rwa [if_neg hxy]at this);have HB:=Zh (fun W=>ziy (w:=W) ((x1,x2),x3) ((y1,y2),y3));have hor:=ziA hxy;simp only at hor;generalize Z1 ((x1,x2),x3) ((y1,y2),y3)=r at*
    clear HST hxy;have oX:Old b1 wr:=⟨e4⟩;have oY:Old b2 wr:=⟨f4⟩;rcases hor with g1|⟨g1,g2⟩|⟨g1,g2,g3⟩<;>
    ·go_wp2_with fail
     go_quiet (fail)
     go_wp2_with fail
     go_region_held3 (fun w'=>(w'.cell? ⟨b1,o1+k*3,none⟩=some (.int .i64 x1)/\w'.cell? ⟨b1,o1+k*3+1,none⟩=some (.int .i64 x2)/\w'.cell? ⟨b1,o1+k*3+2,none⟩=some (.int .i64 x3))/\w'.cell? ⟨b2,o2+k*3,none⟩=some (.int .i64 y1)/\w'.cell? ⟨b2,o2+k*3+1,none⟩=some (.int .i64 y2)/\w'.cell? ⟨b2,o2+k*3+2,none⟩=some (.int .i64 y3)) ((simp only[zi wr];exact⟨⟨e1,e2,e3⟩,f1,f2,f3⟩))
      ((go_at_call 40;refine(HB.out _).mono ?_;rintro e w1 ⟨rfl,hq1⟩;have hs1:=zdp hq1))
     all_goals
      have hG1:GrowD w w1:=(hG.trans (GrowD.drew wr _)).trans hq1;go_wp2_with fail
      go_ret;exact⟨by rw[HS2.out];rfl,hG1⟩
  ·obtain rfl:k=L:=by omega
   have HV:Hid (Zw p q=zk (n:Int) (m:Int)):=Zh (by
    rw[HE.out,HN.out.1,HN.out.2];have h3:=HN.out.1;have h4:=HN.out.2;exact zpI (by omega) (by omega) (by omega))
   generalize zk (n:Int) (m:Int)=r at*
   clear hk HE;go_wp2_with (go_at_call 41;refine(HC.out _).mono ?_;rintro e w1 ⟨rfl,rfl⟩)
   go_ret;exact⟨by rw[HV.out];rfl,hG⟩
theorem qF{x y z:Value}(h:w.heap[b]? =some (.cells #[x,y,z] T (0,0))):(w.cell? ⟨b,0,none⟩=some x/\w.cell? ⟨b,1,none⟩=some y/\w.cell? ⟨b,2,none⟩=some z)/\(w.frozen? ⟨b,0,none⟩=false/\w.frozen? ⟨b,1,none⟩=false/\w.frozen? ⟨b,2,none⟩=false)/\b<w.heap.size:=
 ⟨⟨by simp[World.cell?,h],by simp[World.cell?,h],by simp[World.cell?,h]⟩,⟨by simp[World.frozen?,h],by simp[World.frozen?,h],by simp[World.frozen?,h]⟩,zF h⟩
def zbB(w:World)(ns:List Int)(a:Nat)(n:Int)(e:Ending)(w':World):Prop:=
 ∃k:Nat,e= .returned (.int .i64 k)/\a<k/\k<=ns.length/\(∀j x,a<=j->j<k->ns[j]? =some x->x=n)/\(∀x,ns[k]? =some x->x≠n)/\Step w w'
theorem zeH{a len:Nat}{n:Int}{ns:List Int}{SL SD:Value}(hN:Ints w0 NA 2 .i64 ns)(hn:ns[a]? =some n)(hln:ns.length=len)(hl:len<=1099511627776)[hx:Ext w0 w]:
  Cq 18 #[.agg #[SL,.slice NA len nc,SD],.int .i64 a] w (zbB w ns a n):=by
 have hal:a<len:=by have:=(Zg.1 hn).1;omega
 obtain⟨b,o,n',rfl,hn',c0,hb⟩:=(hN.ext hx).at_ (i:=a) (by omega);obtain rfl:n=n':=by rw[hn]at hn';injection hn'
 have HNS:=Zh hN;have HNA:=Zh hn;have HLN:=Zh hln;have oB:Old b w:=⟨hb⟩;unfold zbB;clear hN hn hn' hln;go_enter Tryz.func18,Tryz.ntmps18;go_wp2_with fail
 go_loopw [5] (fun e wr=>∃k:Nat,a<k/\k<=len/\e= .int .i64 k/\Hid (∀j x,a<=j->j<k->ns[j]? =some x->x=n)/\Ext (w.alloc (.cells #[SL,.slice (some ⟨b,o,none⟩) len nc,SD] 45)) wr) (fun e _=>len-(intOf e).toNat)
 case atStart=>exact⟨a+1,by omega,by omega,by go_num,Zh (fun j x h1 h2 hj=>by
  obtain rfl:j=a:=by omega
  rw[HNA.out]at hj;injection hj with hj
  exact hj.symm),Zi⟩
 case round=>
  obtain⟨k,hk1,hk2,rfl,HP,hxr⟩:=hrel;obtain⟨⟨-,c1,-⟩,-,-⟩:=qF (zj hxr (heap_alloc_new w _));have hxw:Ext w wr:=Ext.trans Zi hxr;have c2:wr.cell? ⟨b,o+a,none⟩=some (.int .i64 n):=(zi w).trans c0;by_cases hk:k<len
  ·obtain⟨b',o',x,hA,hkx,c3,-⟩:=(HNS.out.ext (hx.trans hxw)).at_ (i:=k) (by rw[HLN.out];exact hk);injection hA with hA
   injection hA with z1 z2
   subst z1 z2;have HKX:=Zh hkx;clear hkx;by_cases hxn:x=n
   ·subst hxn;have HP2:Hid (∀j y,a<=j->j<k+1->ns[j]? =some y->y=x):=Zh (fun j y h1 h2 hj=>by
     rcases Zl j k with h|h
     ·exact HP.out j y h1 h hj
     ·obtain rfl:j=k:=by omega
      rw[HKX.out]at hj;injection hj with hj
      exact hj.symm)
    go_wp2_with fail
    go_quiet (fail)
    go_wp2_with fail
    exact⟨⟨k+1,by omega,by omega,by go_num,HP2,hxr.trans Zi⟩,by simp[intOf];omega⟩
   ·have hd:(x==n)=false:=by simp[hxn]
    have HNE:Hid (∀y,ns[k]? =some y->y≠n):=Zh (fun y hy=>by
     rw[HKX.out]at hy;injection hy with hy
     rw[<-hy];exact hxn)
    clear hxn;go_wp2_with fail
    go_quiet (fail)
    go_wp2_with fail
    go_ret;exact⟨k,rfl,hk1,by rw[HLN.out];exact hk2,HP.out,HNE.out,(hxw.trans Zi).toStep⟩
  ·obtain rfl:k=len:=by omega
   have hkd:decide ((k:Int)<(k:Int))=false:=by simp
   clear hk;go_wp2_with fail
   go_quiet (fail)
   go_wp2_with fail
   go_ret;exact⟨k,rfl,hk1,by rw[HLN.out];exact Zr,HP.out,(fun y hy=>by rw[List.getElem?_eq_none (by rw[HLN.out];exact Zr)]at hy;cases hy),(hxw.trans Zi).toStep⟩
theorem zpJ(a t:Int):IntKind.i64.wrap (a+18446744073709551616*t)=IntKind.i64.wrap a:=by simp only[IntKind.wrap_i64];omega
theorem zpK(a b:Int):IntKind.i64.wrap (IntKind.i64.wrap a*b)=IntKind.i64.wrap (a*b):=by
 obtain⟨t,ht⟩:∃t,IntKind.i64.wrap a=a+18446744073709551616*t:=⟨-((a+9223372036854775808) / 18446744073709551616),by simp only[IntKind.wrap_i64];omega⟩;rw[ht,Int.add_mul,Int.mul_assoc,zpJ]
theorem ziH:∀l x:List Int,qb (l.map IntKind.i64.wrap) x=qb l x
 |[],x=>rfl
 |a::l,[]=>rfl
 |a::l,b::x=>by
  have ih:=ziH l x;unfold qb at*
  simp only[List.map_cons,zG];have h1:∀s t:Int,IntKind.i64.wrap (s+t)=IntKind.i64.wrap (s+IntKind.i64.wrap t):=fun s t=>(ziF s t).symm
  rw[h1,ih,<-h1,<-zeD,zpK,zeD]
theorem zpL(m:List (List Int))(x:List Int):ZF m x=(zU m x).map IntKind.i64.wrap:=by
 unfold ZF zU;rw[List.map_map];rfl
theorem ziI(m:List (List Int))(y x:List Int):qb (ZF m y) x=qb (zU m y) x:=by rw[zpL,ziH]
theorem zpM(h:-9223372036854775808<=zg m y/\zg m y<=9223372036854775807):qb (ZF m y) y=zg m y:=by
 rw[ziI];unfold qb;rw[zdK];exact IntWalk.i64_in _ h
structure SysV(w:World)(m L:List (List Int))(LA NA DA:Option Addr):Prop where
 list:Mat64 w LA L
 norms:Ints w NA 2 .i64 (L.map (zg m))
 duals:Mat64 w DA (L.map (ZF m))
theorem SysV.ext(h:SysV w m L LA NA DA)(hx:Ext w w'):SysV w' m L LA NA DA:=⟨h.list.ext hx,h.norms.ext hx,h.duals.ext hx⟩
structure SysI(m L:List (List Int))(wr:World)(sb:Nat)(LV:Value)(NA DA:Option Addr)(k nc dc:Nat)(vs:List Value):Prop where
 st:wr.heap[sb]? =some (.cells #[LV,.slice NA k nc,.slice DA k dc] 45 (0,0))
 ni:Own wr sb 2 1 NA k nc ((L.take k).map fun y=> .int .i64 (zg m y))
 di:Own wr sb 35 1 DA k dc vs
 row:∀i y,i<k->L[i]? =some y->∃B c,vs[i]? =some (.slice B m.length c)/\ArrN NA wr B 2 ((ZF m y).map (Value.int .i64))/\m.length<=c/\c<=9223372036854775807
structure SysJ(m L:List (List Int))(wr:World)(sb:Nat)(LV:Value)(NA DA:Option Addr)(k nc dc:Nat)(vs:List Value)(g:Nat)(y:List Int):Prop where
 st:wr.heap[sb]? =some (.cells #[LV,.slice NA k nc,.slice DA (k+1) dc] 45 (0,0))
 ni:Own wr sb 2 1 NA k nc ((L.take k).map fun y=> .int .i64 (zg m y))
 di:Own wr sb 35 1 DA (k+1) dc (vs++[.slice (some ⟨g,0,none⟩) m.length m.length])
 row:∀i y,i<k->L[i]? =some y->∃B c,vs[i]? =some (.slice B m.length c)/\ArrN NA wr B 2 ((ZF m y).map (Value.int .i64))/\m.length<=c/\c<=9223372036854775807
 new:ArrN NA wr (some ⟨g,0,none⟩) 2 ((ZF m y).map (Value.int .i64))
theorem SysI.step1{w3:World}{d3:Nat}{A3:Option Addr}(hI:SysI m L wr sb LV NA DA k nc dc vs)(hx:Ext wr W)(zr6:Row W g 2 .i64 (ZF m y))(hg:wr.heap.size<=g)
  (zr5:Own w3 sb 35 1 A3 (k+1) d3 (vs++[.slice (some ⟨g,0,none⟩) m.length m.length])) (hgr:Grow sb 35 W w3):SysJ m L (w3.setCell ⟨sb,2,none⟩ (.slice A3 (k+1) d3)) sb LV NA A3 k nc d3 vs g y:=by
 have hB3:=hgr.heap (zj hx hI.st) (by decide);have hoS:=Oth.set (p:=⟨sb,2,none⟩) hB3 (.slice A3 (k+1) d3);refine⟨by rw[Zo hB3];rfl,((hI.ni.ext hx).grow hgr (by decide)).oth hoS (by decide),zr5.oth hoS (by decide),fun i y hi hy=>?_,?_⟩
 ·obtain⟨B,c,a,b,e⟩:=hI.row i y hi hy;exact⟨B,c,a,((b.ext hx).oth (Oth.of_grow hgr) (by decide)).oth hoS (by decide),e⟩
 ·have hlt:=hI.ni.blockLt;have zxr:ArrN NA W (some ⟨g,0,none⟩) 2 ((ZF m y).map (Value.int .i64)):=fun _=>⟨g,0,_,_,rfl,fun a ha=>by have:=hlt a ha;omega,zr6,fun j u hu=>by simpa using hu⟩
  exact(zxr.oth (Oth.of_grow hgr) (by decide)).oth hoS (by decide)
theorem SysJ.step2{w4 w6:World}{d6:Nat}{A6:Option Addr}(hJ:SysJ m L w4 sb LV NA DA k nc dc vs g y)(hy:L[k]? =some y)(hml:m.length<=1000)(hx:Ext w4 W)
  (zr5:Own w6 sb 2 1 A6 (k+1) d6 (((L.take k).map fun y=> .int .i64 (zg m y))++[.int .i64 (zg m y)])) (hg:Grow sb 2 W w6) (hgr:Grew NA A6 W w6):SysI m L (w6.setCell ⟨sb,1,none⟩ (.slice A6 (k+1) d6)) sb LV A6 DA (k+1) d6 dc (vs++[.slice (some ⟨g,0,none⟩) m.length m.length]):=by
 have hB6:=hg.heap (zj hx hJ.st) (by decide);have hoS:=Oth.set (p:=⟨sb,1,none⟩) hB6 (.slice A6 (k+1) d6);have hvl:vs.length=k:=by have:=hJ.di.len;simp at this;omega
 refine⟨by rw[Zo hB6];rfl,?_,((hJ.di.ext hx).grow hg (by decide)).oth hoS (by decide),fun i y' hi hy'=>?_⟩
 ·have e:L.take (k+1)=L.take k++[y]:=by rw[List.take_add_one,hy];rfl
  rw[e,List.map_append];exact zr5.oth hoS (by decide)
 ·rcases Zl i k with h|h
  ·obtain⟨B,c,a,b,e⟩:=hJ.row i y' h hy';exact⟨B,c,by rw[List.getElem?_append_left (by omega)];exact a,((b.ext hx).grew hgr).oth hoS (by decide),e⟩
  ·obtain rfl:i=k:=by omega
   obtain rfl:y=y':=by rw[hy]at hy';injection hy'
   exact⟨_,m.length,by rw[List.getElem?_append_right (by omega),hvl];simp,((hJ.new.ext hx).grew hgr).oth hoS (by decide),Zr,by omega⟩
theorem SysI.sys(hI:SysI m L wr sb LV NA DA L.length nc dc vs)(hL:Mat64 W LA L)(ho:Oth 45 wr W):SysV W m L LA NA DA:=by
 refine⟨hL,?_,vs,by have:=hI.di.len;simp;omega,(hI.di.oth ho (by decide)).arr,fun i r hr=>?_⟩
 ·have h:=(hI.ni.oth ho (by decide)).arr;rw[List.take_length]at h;show Arr _ _ _ _;rw[List.map_map];exact h
 ·rw[List.getElem?_map]at hr;obtain⟨y,hy,rfl⟩:∃y,L[i]? =some y/\ZF m y=r:=by
   cases hh:L[i]? with
   |none=>rw[hh]at hr;cases hr
   |some y=>rw[hh]at hr;exact⟨y,rfl,by simpa using hr⟩
  obtain⟨B,c,a,b,e⟩:=hI.row i y (Zg.1 hy).1 hy;have hl:(ZF m y).length=m.length:=by simp[ZF]
  exact⟨B,c,by rw[hl];exact a,(b.oth ho (by decide)).arr,by rw[hl];exact e.1,e.2⟩
def zaF(w:World)(P:List (List Int)->Prop)(e:Ending)(w':World):Prop:=∃B d L s,e= .returned (.tuple #[.slice B (List.length L) d,s,.int .i64 0])/\Mat64 w' B L/\L.length<=d/\d<=9223372036854775807/\P L/\Step w w'
def Ju(w:World)(m:List (List Int))(P:List (List Int)->Prop)(e:Ending)(w':World):Prop:=
 ∃LA NA DA lc nc dc L,e= .returned (.tuple #[.agg #[.slice LA (List.length L) lc,.slice NA L.length nc,.slice DA L.length dc],.int .i64 0])/\SysV w' m L LA NA DA/\P L/\L.length<=lc/\lc<=9223372036854775807/\L.length<=nc/\nc<=9223372036854775807/\L.length<=dc/\dc<=9223372036854775807/\Step w w'
set_option maxRecDepth 20000 in
theorem zeI{b u:Int}{P:List (List Int)->Prop}(hM:MatA w0 A m)(hml:m.length<=1000)(zr9:∀r∈m,r.length<=m.length)
  (zsW:∀W,Ext w0 W->Cq 34 #[.slice A m.length c,.int .i64 b,.int .i64 u] W (zaF W P))
  (hP:∀L,P L->L.length<=100000/\(∀y∈L,y.length=m.length)/\∀y∈L,-9223372036854775808<=zg m y/\zg m y<=9223372036854775807) [hx:Ext w0 w]:
  Cq 17 #[.slice A m.length c,.int .i64 b,.int .i64 u] w (Ju w m P):=by
 have HV:=Zh zsW;have HPP:=Zh hP;have HMA:=Zh hM;have HAL:=Zh zr9;obtain⟨n,hn⟩:=Xz m.length;have HN:=Zh hn;rw[<-hn]at hml HV|-
 unfold Ju;clear zsW hP hM zr9 hn;go_enter Tryz.func17,Tryz.ntmps17;go_wp2_with (go_at_call 34;refine(HV.out _ Zi).mono ?_;rintro e w1 ⟨LA,lc,L,s,rfl,hL,hl1,hl2,hPL,hs1⟩)
 obtain⟨hL8,hLr,hLn⟩:=HPP.out L hPL;obtain⟨q,hq⟩:=Xz L.length;have HQ:=Zh hq;rw[<-hq]at hL8 hl1|-
 have HL:=Zh hL;have HPL:=Zh hPL;have HLR:=Zh hLr;have zrU:=Zh hLn;have zs4:Ext w w1:=Zi;have ztn:Ext w0 w1:=Zi;clear hq hL hPL hLr hLn HPP HV;go_loopw [13,14,31] (fun _ _ i wr=>∃(k:Nat) (NA DA:Option Addr) (nc dc:Nat) (vs:List Value),k<=q/\i= .int .i64 k/\Hid (SysI m L wr w1.heap.size (.slice LA q lc) NA DA k nc dc vs)/\Ext w1 wr) (fun _ _ i _=>q-(intOf i).toNat)
 case atStart=>
  exact⟨0,none,none,0,0,[],by omega,rfl,Zh ⟨heap_alloc_new w1 _,Own.nil _ _ _ _,Own.nil _ _ _ _,fun i y hi=>absurd hi (by omega)⟩,Zi⟩
 case round=>
  obtain⟨k,NA,DA,nc,dc,vs,hk,rfl,HI,hxr⟩:=hrel;have zs0:Ext w0 wr:=ztn.trans hxr;by_cases hlt:k<q
  ·obtain⟨y,hy⟩:∃y,L[k]? =some y:=⟨_,Ze (by rw[<-HQ.out];exact hlt)⟩;have hyn:y.length=n:=by rw[HN.out];exact HLR.out y (Zm hy)
   obtain⟨bb,bo,B,c1,rfl,e0,hB,e2,e3,e4⟩:=HL.out.a.at_ hy;rw[hyn]at e0 e2;have oB1:Old bb w1:=⟨e4⟩;have e1:wr.cell? ⟨bb,bo+k,none⟩=some (.slice B n c1):=(zi w1).trans e0;have oB:Old bb wr:=⟨Nat.lt_of_lt_of_le e4 hxr.size⟩;have HAP:Hid (∀W,Ext wr W->Cq 35 #[.slice A n c,.slice B n c1] W (zeF W (ZF m y))):=Zh (fun W e=>by
    have h:=zpG (w0:=W) (w:=W) (c:=c) (d:=c1) (HMA.out.ext (zs0.trans e)) (hB.ext (hxr.trans e)) hyn (fun r hr=>by rw[HN.out];exact HAL.out r hr) (by omega) (by rw[<-HN.out];omega);rwa [<-HN.out]at h)
   have hlA:(ZF m y).length=n:=by rw[HN.out];simp[ZF]
   have HDT:Hid (∀W g,Ext w1 W->Row W g 2 .i64 (ZF m y)->Cq 36 #[.slice (some ⟨g,0,none⟩) n n,.slice B n c1] W (Zv W (.int .i64 (zg m y)))):=Zh (fun W g e hr=>by
    have h:=zeE (w0:=W) (w:=W) (c:=n) (d:=c1) ⟨_,hr.ints⟩ (hB.ext e) hlA hyn Zr (by omega);rwa [zpM (zrU.out y (Zm hy))]at h)
   obtain⟨⟨s1,s2,s3⟩,⟨t1,t2,t3⟩,s4⟩:=qF HI.out.st;have oS:Old w1.heap.size wr:=⟨s4⟩;have HY:=Zh hy;have HLA:=Zh hlA;unfold zeF at HAP;rw[hlA]at HAP;generalize hYY:ZF m y=Y at*
   clear hB hy hlA;go_upto_region 10 with (first
    |(go_at_call 35;refine(HAP.out _ Zi).mono ?_;rintro e w2 ⟨rfl,hR2,hs2⟩;have HR2:=Zh hR2;clear hR2)
    |(at_builtin;go_loud (refine zM _ rfl _ _ 25 rfl w1.heap.size 35 (.slice none 0 0) 1 24 Tryz.underlying25 Qc rfl (by omega) (by omega) DA k dc vs rfl (HI.out.di.ext Zi) (some ⟨w2.heap.size,0,none⟩) 1 1 [.slice (some ⟨wr.heap.size,0,none⟩) n n] rfl (Arr.new w2 35 #[.slice (some ⟨wr.heap.size,0,none⟩) n n]) (by simp) (by simp[Value.oneCell']) (by omega) (by have:=hxr.size;have:=hs2.size;simp;omega) ?_);intro A3 d3 w3 zr5 hg;have hb3:=hg.heap (zj (Zi:Ext wr (w2.alloc (.cells #[.slice (some ⟨wr.heap.size,0,none⟩) n n] 35))) HI.out.st) (by decide);obtain⟨⟨q1,q2,q3⟩,⟨p1,p2,p3⟩,q4⟩:=qF hb3;have HB3:=Zh hb3;clear hb3))
   have hx2:Ext wr (w2.alloc (.cells #[.slice (some ⟨wr.heap.size,0,none⟩) n n] 35)):=Zi;have hJ:=HI.out.step1 (y:=y) (g:=wr.heap.size) hx2 (by rw[hYY];exact zj (Zi:Ext w2 (w2.alloc (.cells #[.slice (some ⟨wr.heap.size,0,none⟩) n n] 35))) HR2.out) Zr (by rw[<-HN.out];exact zr5) hg;have hx4:Ext w1 (w3.setCell ⟨w1.heap.size,2,none⟩ (.slice A3 (k+1) d3)):=(hg.ext (hxr.trans hx2) Zr).setCell (p:=⟨w1.heap.size,2,none⟩) Zr _
   have hR4:Row (w3.setCell ⟨w1.heap.size,2,none⟩ (.slice A3 (k+1) d3)) wr.heap.size 2 .i64 Y:=(Oth.set (p:=⟨w1.heap.size,2,none⟩) HB3.out (.slice A3 (k+1) d3)) _ _ _ _ (by decide) (hg.heap (zj (Zi:Ext w2 (w2.alloc (.cells #[.slice (some ⟨wr.heap.size,0,none⟩) n n] 35))) HR2.out) (by decide));have zyw:Ext w1 wr:=hxr;generalize w3.setCell ⟨w1.heap.size,2,none⟩ (.slice A3 (k+1) d3)=w4 at hJ hx4 hR4|-
   clear zr5 hg HB3 q1 q2 q3 q4 p1 p2 p3 s1 s2 s3 t1 t2 t3 s4 hs2 hx2;obtain⟨⟨r1,r2,r3⟩,⟨p1,p2,p3⟩,p4⟩:=qF hJ.st;have HJ:=Zh hJ;have HD4:=Zh (fun W(e:Ext w4 W)=>HDT.out W wr.heap.size (hx4.trans e) (zj e hR4));have oS4:Old w1.heap.size w4:=⟨p4⟩;clear HDT HAP HR2 hJ hR4;obtain⟨nv,hnv⟩:=Xz (zg m y);rw[<-hnv]at HD4;have HNV:=Zh hnv;clear hnv;go_region_law (first
    |((refine zgn _ rfl (.tmp 45) (.tmp 49) 35 rfl w1.heap.size 2 (.int .i64 0) 1 8 Tryz.underlying35 Qb rfl (by decide) (by decide) NA k nc _ (by simp[Act.eval]) (HJ.out.ni.ext Zi) ⟨w4.heap.size,0,none⟩ 1 1 [.int .i64 nv] (by simp[Act.eval]) ((Arr.new w4 2 #[.int .i64 nv]).ext Zi) rfl (by simp[Value.oneCell']) (by omega) (by have:=hx4.size;simp<;>omega) ?_);intro A6 d6 w6 zsd hg6 zvZ;have hb6:=hg6.heap (zj (Zi:Ext w4 ((w4.alloc (Obj.cells #[Value.int .i64 nv] 2)).drew)) HJ.out.st) (by decide);obtain⟨⟨z1,z2,z3⟩,⟨z4,z5,z6⟩,z7⟩:=qF hb6)
    |(go_simp;go_at_call 36;refine(HD4.out _ Zi).mono ?_;rintro e w5 ⟨rfl,rfl⟩))
   all_goals
    have zr8:=HJ.out.step2 (W:=(w4.alloc (Obj.cells #[Value.int .i64 nv] 2)).drew) HY.out (by rw[<-HN.out];omega) Zi (by rw[<-HNV.out];exact zsd) hg6 zvZ;have hx6:Ext w1 (w6.setCell ⟨w1.heap.size,1,none⟩ (.slice A6 (k+1) d6)):=(hg6.ext (hx4.trans (Zi:Ext w4 ((w4.alloc (Obj.cells #[Value.int .i64 nv] 2)).drew))) Zr).setCell (p:=⟨w1.heap.size,1,none⟩) Zr _;have zqW:=Zh zr8;clear zr8 zsd hg6 zvZ hb6 z1 z2 z3
    go_wp2_with fail
    exact⟨⟨k+1,A6,A3,d6,d3,_,by omega,by go_num,zqW,hx6⟩,by simp[intOf];omega⟩
  ·obtain rfl:k=q:=by omega
   clear hlt hk;obtain⟨⟨s1,s2,s3⟩,⟨t1,t2,t3⟩,s4⟩:=qF HI.out.st;have hrb:w1.heap[w.heap.size]? =some (.cells #[.slice none 0 0,.slice none 0 0,.slice none 0 0] 45 (0,0)):=zj (Zi:Ext (w.alloc (.cells #[.slice none 0 0,.slice none 0 0,.slice none 0 0] 45)) w1) (heap_alloc_new w _);have hrr:=zj hxr hrb;obtain⟨⟨a1,a2,a3⟩,⟨b1,b2,b3⟩,a4⟩:=qF hrr;have oS:Old w1.heap.size wr:=⟨s4⟩;have oR:Old w.heap.size wr:=⟨a4⟩
   have HRR:=Zh hrr;clear hrb hrr;go_wp2_with fail
   have hfb:(((wr.setCell ⟨w.heap.size,0,none⟩ (.slice LA k lc)).setCell ⟨w.heap.size,1,none⟩ (.slice NA k nc)).setCell ⟨w.heap.size,2,none⟩ (.slice DA k dc)).heap[w.heap.size]? =some (.cells #[.slice LA k lc,.slice NA k nc,.slice DA k dc] 45 (0,0)):=by
    rw[Zo (Zo (Zo HRR.out _) _) _];rfl
   have ho:Oth 45 wr (((wr.setCell ⟨w.heap.size,0,none⟩ (.slice LA k lc)).setCell ⟨w.heap.size,1,none⟩ (.slice NA k nc)).setCell ⟨w.heap.size,2,none⟩ (.slice DA k dc)):=
    (Oth.set2 HRR.out 0 1 _ _).trans (Oth.set (p:=⟨w.heap.size,2,none⟩) (Zo (Zo HRR.out _) _) _)
   have hxF:Ext w (((wr.setCell ⟨w.heap.size,0,none⟩ (.slice LA k lc)).setCell ⟨w.heap.size,1,none⟩ (.slice NA k nc)).setCell ⟨w.heap.size,2,none⟩ (.slice DA k dc)):=
    (((zs4.trans hxr).setCell (p:=⟨w.heap.size,0,none⟩) Zr _).setCell (p:=⟨w.heap.size,1,none⟩) Zr _).setCell (p:=⟨w.heap.size,2,none⟩) Zr _
   have hLF:Mat64 (((wr.setCell ⟨w.heap.size,0,none⟩ (.slice LA k lc)).setCell ⟨w.heap.size,1,none⟩ (.slice NA k nc)).setCell ⟨w.heap.size,2,none⟩ (.slice DA k dc)) LA L:=(HL.out.ext hxr).oth ho (by decide) (by decide);generalize ((wr.setCell ⟨w.heap.size,0,none⟩ (.slice LA k lc)).setCell ⟨w.heap.size,1,none⟩ (.slice NA k nc)).setCell ⟨w.heap.size,2,none⟩ (.slice DA k dc)=wf at*
   obtain⟨⟨c1,c2,c3⟩,-,-⟩:=qF hfb;have hI:=HI.out;rw[HQ.out]at hI;have hni:=HI.out.ni.cap;have hdi:=HI.out.di.cap;have hqq:=HQ.out;refine bodyPost_ret (v:= .tuple #[.agg #[.slice LA k lc,.slice NA k nc,.slice DA k dc],.int .i64 0]) (by simp[results,Tryz.results17,go_sem,c1,c2,c3]) rfl ⟨LA,NA,DA,lc,nc,dc,L,by rw[<-HQ.out],?_,HPL.out,by omega,hl2,by omega,by omega,by omega,by omega,hxF.toStep⟩;exact hI.sys hLF ho
structure Fm(mb:Nat)(w w':World):Prop where
 os:w'.os=w.os
 tape:w'.tape=w.tape
 output:w'.output=w.output
 size:w.heap.size<=w'.heap.size
 block:∀b,b<w.heap.size->b≠mb->w'.heap[b]? =w.heap[b]?
theorem Fm.refl(mb:Nat)(w:World):Fm mb w w:=⟨rfl,rfl,rfl,Zr,fun _ _ _=>rfl⟩
theorem Fm.trans{b c:World}(h:Fm mb a b)(h':Fm mb b c):Fm mb a c:=
 ⟨h'.os.trans h.os,h'.tape.trans h.tape,h'.output.trans h.output,Nat.le_trans h.size h'.size,fun k hk hn=>(h'.block k (Nat.lt_of_lt_of_le hk h.size) hn).trans (h.block k hk hn)⟩
theorem Fm.of_ext(h:Ext w w'):Fm mb w w':=⟨h.below.os,h.below.tape,h.below.output,h.below.size,fun b hb _=>h.below.block b hb⟩
theorem Fm.of_grown(h:w.grownBy w' (some mb)):Fm mb w w':=⟨h.os,h.tape,h.output,h.size,fun b hb hn=>h.block b hb (fun e=>hn (by injection e))⟩
theorem Fm.new(h:Fm mb w wr)(hb:Below w.heap.size wr w'):Fm mb w w':=
 ⟨hb.os.trans h.os,hb.tape.trans h.tape,hb.output.trans h.output,Nat.le_trans h.size hb.size,fun b hk hn=>(hb.block b hk).trans (h.block b hk hn)⟩
theorem Fm.ext0(hx:Ext w0 w)(hm:w0.heap.size<=mb)(h:Fm mb w w'):Ext w0 w':=
 ⟨⟨h.os.trans hx.below.os,h.tape.trans hx.below.tape,h.output.trans hx.below.output,Nat.le_trans hx.size h.size,fun b hb=>(h.block b (Nat.lt_of_lt_of_le hb hx.size) (by omega)).trans (hx.below.block b hb)⟩⟩
theorem MapC.not_cells{L:List Kc}(h:MapC w b n L) :w.heap[b]?≠some (.cells cs T fr):=by
 obtain⟨D,⟨es,c,h1,-⟩,-⟩:=h;rw[h1];intro e
 cases e
theorem Fm.cells{L:List Kc}(h:Fm mb w w')(hm:MapC w mb n L)(hb:w.heap[b]? =some (.cells cs T fr)):w'.heap[b]? =some (.cells cs T fr):=
 (h.block b (zF hb) (fun e=>hm.not_cells (by rw[<-e];exact hb))).trans hb
theorem Fm.arr{L:List Kc}(h:Fm mb w w')(hm:MapC w mb n L)(ha:Arr w A T vs):Arr w' A T vs:=
 ha.keep fun _ _ _ hb=>(h.cells hm hb).trans hb.symm
theorem Fm.own{L:List Kc}(h:Fm mb w w')(hm:MapC w mb n L)(ho:Own w zf T size A k c vs):Own w' zf T size A k c vs:=by
 refine⟨ho.1,?_⟩;rcases ho.2 with hv|⟨g,cap,cur,hv,h1,h2,h3⟩
 ·exact .inl hv
 ·exact .inr ⟨g,cap,cur,hv,h1,h.cells hm h2,h3⟩
theorem MapC.grow{L:List Kc}(h:MapC w mb n L)(hg:Grow zf T w w'):MapC w' mb n L:=by
 have hb:=hg.typed mb h.lt (fun _ _=>h.not_cells);obtain⟨D,⟨es,c,h1,h2⟩,h3⟩:=h;exact⟨D,⟨es,c,hb.trans h1,h2⟩,h3⟩
theorem MapC.at_block{L:List Kc}(h:MapC w mb n L)(hb:w'.heap[mb]? =w.heap[mb]?):MapC w' mb n L:=by
 obtain⟨D,⟨es,c,h1,h2⟩,h3⟩:=h;exact⟨D,⟨es,c,hb.trans h1,h2⟩,h3⟩
theorem RngC.iter{L ks:List Kc}(h:RngC w b r n L ks cnt) :w.heap[r]?≠some (.cells cs T fr):=by
 obtain⟨D,left,⟨es,clock,since,seen,c0,-,-,-,-,h5,-⟩,-⟩:=h;rw[h5];intro e
 cases e
theorem RngC.grow{L ks:List Kc}(h:RngC w b r n L ks cnt)(hg:Grow zf T w w'):RngC w' b r n L ks cnt:=
 h.kept (hg.typed b h.map.lt (fun _ _=>h.map.not_cells)) (hg.typed r h.lt.1 (fun _ _=>h.iter))
theorem RngC.ext{L ks:List Kc}(h:RngC w b r n L ks cnt)(hx:Ext w w'):RngC w' b r n L ks cnt:=
 h.kept (hx.below.block b h.map.lt) (hx.below.block r h.lt.1)
theorem zpN(h:w.grownBy w' (some r))(hr:∀(cs:Array Value)(T:TypeId)(fr:Nat×Nat),w.heap[r]?≠some (.cells cs T fr))(ho:Own w zf T size A k c vs):Own w' zf T size A k c vs:=by
 refine⟨ho.1,?_⟩;rcases ho.2 with hv|⟨g,cap,cur,hv,h1,h2,h3⟩
 ·exact .inl hv
 ·exact .inr ⟨g,cap,cur,hv,h1,(h.block g (zF h2) (fun e=>by injection e with e;exact hr _ _ _ (by rw[<-e];exact h2))).trans h2,h3⟩
theorem zpO:Sort.SWO (ltOf Z1) where
 irrefl x:=by
  rcases j5 x x with ⟨h1,-⟩|⟨-,h2⟩|⟨h1,-⟩
  ·exact absurd h1 (QK.irr x)
  ·simp[ltOf,h2]
  ·exact absurd h1 (QK.irr x)
 trans x y z h1 h2:=by
  have h1:Z1 x y<0:=of_decide_eq_true h1;have h2:Z1 y z<0:=of_decide_eq_true h2;have a1:ZD x y:=by rcases j5 x y with ⟨h,-⟩|⟨-,h⟩|⟨-,h⟩<;>first|exact h|omega
  have a2:ZD y z:=by rcases j5 y z with ⟨h,-⟩|⟨-,h⟩|⟨-,h⟩<;>first|exact h|omega
  have a3:=QK.trans a1 a2;refine decide_eq_true (?_:Z1 x z<0);rcases j5 x z with ⟨-,h⟩|⟨h,-⟩|⟨h,-⟩
  ·omega
  ·exact absurd a3 (by rw[h];exact QK.irr z)
  ·exact absurd h (QK.anti a3)
 ntrans x y z h1 h2:=by
  have h1:¬Z1 x y<0:=of_decide_eq_false h1;have h2:¬Z1 y z<0:=of_decide_eq_false h2;refine decide_eq_false (fun(h3:Z1 x z<0)=>?_);have a3:ZD x z:=by rcases j5 x z with ⟨h,-⟩|⟨-,h⟩|⟨-,h⟩<;>first|exact h|omega
  have b1:y=x∨ZD y x:=by rcases j5 x y with ⟨-,h⟩|⟨h,-⟩|⟨h,-⟩<;>first|exact .inl h.symm|exact .inr h|omega
  have b2:z=y∨ZD z y:=by rcases j5 y z with ⟨-,h⟩|⟨h,-⟩|⟨h,-⟩<;>first|exact .inl h.symm|exact .inr h|omega
  rcases b1 with rfl|b1
  ·rcases b2 with rfl|b2
   ·exact QK.irr _ a3
   ·exact QK.anti b2 a3
  ·rcases b2 with rfl|b2
   ·exact QK.anti b1 a3
   ·exact QK.anti (QK.trans b2 b1) a3
theorem ziJ{α:Type}[Inhabited α](enc:α->List Value)(k:Nat)(w:World)(g off m:Nat)(d:Array α)(os:Array Obj)(hb:b<w.heap.size)(hne:b≠g):(sortWorldK enc k w g off m d os).heap[b]? =w.heap[b]? :=by
 have h1:(sortWorldK enc k w g off m d os).heap[b]? =(w.heap.modify g (Sort.onCells (Sort.putCells id off (Sort.flatK enc k d))))[b]? :=by
  show ((w.heap.modify g _)++os)[b]? =_;rw[Array.getElem?_append_left (by simpa using hb)]
 rw[h1,Array.getElem?_modify,if_neg (fun h=>hne h.symm)]
theorem zpP{α:Type}[Inhabited α](enc:α->List Value)(k:Nat)(w:World)(g off m:Nat)(d:Array α)(os:Array Obj)(hg:w.heap[g]? =some (.cells cur T (0,0))):(sortWorldK enc k w g off m d os).heap[g]? =some (.cells (Sort.putCells id off (Sort.flatK enc k d) cur) T (0,0)):=by
 have h1:(sortWorldK enc k w g off m d os).heap[g]? =(w.heap.modify g (Sort.onCells (Sort.putCells id off (Sort.flatK enc k d))))[g]? :=by
  show ((w.heap.modify g _)++os)[g]? =_;rw[Array.getElem?_append_left (by simpa using zF hg)]
 rw[h1,Array.getElem?_modify,if_pos rfl,hg];rfl
theorem zpQ{α:Type}[Inhabited α](enc:α->List Value)(k:Nat)(w:World)(g off m:Nat)(d:Array α)(os:Array Obj){B:Nat}(hB:B<=g)(hg:g<w.heap.size):Below B w (sortWorldK enc k w g off m d os):=
 ⟨rfl,rfl,rfl,by show w.heap.size<=((w.heap.modify g _)++os).size;simp,fun b hb=>ziJ enc k w g off m d os (by omega) (by omega)⟩
theorem zbC(p:List Ct)(j:Nat)(h:j<p.length*3):(zz p)[j]? =some ((Qz (p.getD (j / 3) ((0,0),0))).getD (j%3) undef):=by
 obtain⟨c,hc⟩:∃c,p[j / 3]? =some c:=⟨_,Ze (by omega)⟩;obtain⟨h0,h1,h2⟩:=zcB p (j / 3) c hc;have e:p.getD (j / 3) ((0,0),0)=c:=by simp[List.getD_eq_getElem?_getD,hc]
 rw[e];rcases(by omega:j%3=0∨j%3=1∨j%3=2) with h3|h3|h3<;>rw[h3]
 ·rw[show j / 3*3=j by omega]at h0;exact h0
 ·rw[show j / 3*3+1=j by omega]at h1;exact h1
 ·rw[show j / 3*3+2=j by omega]at h2;exact h2
instance:Inhabited Ct:=⟨((0,0),0)⟩
theorem ziK(D:List Ct)(j:Nat)(h:j<D.length*3):(Sort.flatK Qz 3 D.toArray)[j]! =(Qz (D.getD (j / 3) ((0,0),0))).getD (j%3) undef:=by
 rw[Sort.get_flatK _ _ _ _ (by simpa using h)];have hj:j / 3<D.length:=by omega
 have e:D.toArray[j / 3]! =D.getD (j / 3) ((0,0),0):=by simp[hj]
 rw[e];rcases(by omega:j%3=0∨j%3=1∨j%3=2) with h3|h3|h3<;>rw[h3]<;>rfl
theorem zpR{off cap:Nat}{els:List Ct}(hg:w.heap[g]? =some (.cells cur 71 (0,0)))(zsO:∀j u,(zz els)[j]? =some u->cur[off+j]? =some u)(hn:els.length<4611686018427387904):
  Cq 78 #[.slice (some ⟨g,off,none⟩) els.length cap,.func (.func 40) #[] #[]] w fun e w'=>e= .returned (.tuple #[])/\∃(els':List Ct) (cur':Array Value),els'.Perm els/\els'.Pairwise (fun x y=>¬Z1 y x<0)/\w'.heap[g]? =some (.cells cur' 71 (0,0))/\cur'.size=cur.size/\(∀j u,(zz els')[j]? =some u->cur'[off+j]? =some u)/\(∀j,j<off->cur'[j]? =cur[j]?)/\(∀b,b<w.heap.size->b≠g->w'.heap[b]? =w.heap[b]?)/\∀B,B<=g->Below B w w':=by
 have zsi:CmpLays Tryz.prog 40 #[] Qz 3 Z1 g off els.toArray.size w:=fun m os dk _ x y=>ziy x y
 have hH:Sort.HoldsK Qz 3 w g off els.toArray:=fun j hj=>by
  rw[Sort.size_flatK]at hj;have hj2:j<els.length*3:=by simpa using hj
  refine⟨?_,by simp[World.frozen?,hg]⟩;rw[id,ziK els j hj2,cell_of_row w g (off+j) _ _ _ hg];exact zsO j _ (zbC els j hj2)
 have h:=AnyQ.slices_SortFunc (P:=Tryz.prog) Tryz.laysSortC 3 Tryz.isAgg71 Tryz.sizeOf71 Qz (fun x=>rfl) (fun x v hv=>by
   simp only[Qz,List.mem_cons,List.not_mem_nil,or_false]at hv;rcases hv with rfl|rfl|rfl<;>rfl) Z1 zpO 40 #[] g off cap els.toArray w (enters_of Tryz.func40 (by kernel_rfl) rfl) zsi hH (zF hg) (by simpa using hn)
 have e0:els.toArray.size=els.length:=by simp
 rw[e0]at h;refine h.mono ?_;rintro e w' ⟨he,d',n,os,⟨hp1,-,hp2⟩,hs,hw⟩;have hdl:d'.toList.length=els.length:=by simpa using hp1
 refine⟨he,d'.toList,_,?_,?_,by rw[hw];exact zpP Qz 3 w g off n d' os hg,?_,?_,?_,?_,?_⟩
 ·have e1:d'.extract 0 els.length=d':=by apply Array.ext';simp;rw[List.take_of_length_le (by simpa using Nat.le_of_eq hdl)]
  have e2:(els.toArray).extract 0 els.length=els.toArray:=by rw[<-e0];exact Array.extract_size
  rw[e1,e2]at hp2;simpa using hp2
 ·rw[List.pairwise_iff_getElem];intro i j hi hj hij;have:=hs i j (Nat.zero_le _) hij (by simp at hj hdl;omega);have e3:d'[j]! =d'.toList[j]:=by simp at hj;simp[hj]
  have e4:d'[i]! =d'.toList[i]:=by simp at hi;simp[hi]
  rw[e3,e4]at this;exact of_decide_eq_false this
 ·unfold Sort.putCells;simp
 ·intro j u hu;have hjl:=(Zg.1 hu).1;rw[qZ]at hjl;have hcs:off+j<cur.size:=by
   have:=zsO j _ (zbC els j (by omega));exact(Array.getElem?_eq_some_iff.1 this).1
  have e:(zz d'.toList)[j]? =some ((Sort.flatK Qz 3 d')[j]!):=by
   rw[zbC _ _ hjl,<-ziK _ _ hjl]
  rw[e]at hu;unfold Sort.putCells;rw[Array.getElem?_mapIdx,Array.getElem?_eq_getElem hcs];simp only[Option.map_some];rw[if_pos (by rw[Sort.size_flatK];simp at hjl;omega),show off+j-off=j by omega,id];exact hu
 ·intro j hj;unfold Sort.putCells;rw[Array.getElem?_mapIdx]
  cases hc:cur[j]? with
  |none=>rfl
  |some u=>simp only[Option.map_some];rw[if_neg (by omega)]
 ·rw[hw];exact fun b hb hne=>ziJ _ _ w g off n d' os hb hne
 ·rw[hw];exact fun B hB=>zpQ _ _ w g off n d' os hB (zF hg)
end Go.Proofs.YtpcgfpmiphiacaaGreat

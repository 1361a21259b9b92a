import Derived.Test.YtgoaelchibpffaaGreatT04
import Derived.Test.YtgoaelchibpffaaGreatTSh
import Derived.Lib.ItoaNum
import Derived.Deep.RegionLaw
import Derived.Deep.AppendLies
set_option maxHeartbeats 8000000
set_option linter.unusedVariables false
set_option linter.unusedSimpArgs false
namespace Go.Proofs.YtgoaelchibpffaaGreat
open Go.RowKit
open List (getElem_mem getElem?_append_left getElem?_append_right)
variable {p:Addr} {cs:Array Value} {g:Bool} {x z:Int} {m:List (List Int)} {l zs:List Int} {vs:List Value} {b c i k n o r ze:Nat} {fr:Nat×Nat} {A B X:Option Addr} {T:TypeId} {u y:Value} {w w' w0:World}
def zw:Nat->Nat
 |0=>0
 |n+1=>if (zw n+1)*(zw n+1)<=n+1 then zw n+1 else zw n
theorem Qb(n:Nat):zw n*zw n<=n/\n<(zw n+1)*(zw n+1):=by
 induction n with
 |zero=>simp[zw]
 |succ n ih=>
  simp only[zw];split
  ·grind
  grind
theorem za1{a:Nat}(h:a*a<b*b):a<b:=by
 rcases Zl a b with h1|h1
 ·grind
 ·have:=Nat.mul_le_mul h1 h1;omega
theorem zk0(h1:r*r<=n)(h2:n<(r+1)*(r+1)):zw n=r:=by
 have ⟨a,b⟩:=Qb n;have:=za1 (Nat.lt_of_le_of_lt a h2);have:=za1 (Nat.lt_of_le_of_lt h1 b);omega
theorem zfI{a:Nat}(hr:1<=r):zw a<=(r+a / r) / 2:=by
 have ⟨h1,_⟩:=Qb a;obtain⟨s,hs⟩:=Xz (zw a);rw[<-hs]at h1|-
 rcases Zl ((r+a / r) / 2) s with h|h
 ·have h3:a<r*(a / r+1):=by
   have:=Nat.div_add_mod a r;have:=Nat.mod_lt a ((aa:0<r));grind
  -- a < r * (2 s - r) <= s * s
  obtain⟨q,hq⟩:=Xz (a / r+1);rw[<-hq]at h3;have h5:r*q<=s*s:=by
   rcases Nat.le_total r s with hrs|hrs
   ·obtain⟨d,rfl⟩:∃d,s=r+d:=⟨s-r,aa⟩;have:q<=r+2*d:=aa
    have:=Nat.mul_le_mul_left r this;grind
   ·obtain⟨d,rfl⟩:∃d,r=s+d:=⟨r-s,aa⟩;obtain⟨e,rfl⟩:∃e,s=q+d+e:=⟨s-q-d,aa⟩;grind
  omega
 grind
theorem zfJ{a:Nat}(hr:1<=r)(h:r<=(r+a / r) / 2)(hs:zw a<=r):zw a=r:=by
 have h1:r<=a / r:=aa
 have h2:=(Nat.le_div_iff_mul_le aa).1 h1;refine zk0 h2 ?_;have:=(Qb a).2;exact Nat.lt_of_lt_of_le this (Nat.mul_le_mul aa aa)
theorem zfK{a:Nat}(hs:zw a<=r):a / r<=r+2:=by
 have:=(Qb a).2;have h3:a<(r+1)*(r+1):=Nat.lt_of_lt_of_le this (Nat.mul_le_mul aa aa);have e:(r+1)*(r+1)=r*(r+2)+1:=ae
 have:a<=r*(r+2):=aa
 exact Nat.div_le_of_le_mul this
theorem zk1{a:Nat}(h:a<r*r):zw a<=r:=Nat.le_of_lt (za1 (Nat.lt_of_le_of_lt (Qb a).1 h))
theorem zfL{a:Nat}(h1:1<=a)(h2:a<9223372036854775808):∃s:Nat,(Lib.bitLen a+1) / 2=s/\s<=32/\zw a<=2^s/\1<=Lib.bitLen a/\Lib.bitLen a<=63:=by
 have hb:=Lib.bitLenAux_bounds 64 a aa aa;have hb':1<=Lib.bitLen a/\2^(Lib.bitLen a-1)<=a/\a<2^Lib.bitLen a:=hb;obtain⟨L,hL⟩:=Xz (Lib.bitLen a);rw[<-hL]at hb'|-
 have h63:L<=63:=by
  rcases Zl 63 L with h|h
  ·have:2^63<=2^(L-1):=Nat.pow_le_pow_right aa aa;omega
  grind
 refine⟨(L+1) / 2,rfl,aa,zk1 ?_,hb'.1,h63⟩;rw[<-Nat.pow_add];exact Nat.lt_of_lt_of_le hb'.2.2 (Nat.pow_le_pow_right aa aa)
theorem zfM{a b:Int}(hb:0<b):a / b=if a.tmod b<0 then a.tdiv b-1 else a.tdiv b:=by
 have n3:=Int.emod_nonneg a ((aa:b≠0));have n4:=Int.emod_lt_of_pos a hb;grind
theorem zfN{a b:Int}(ha0:-9223372036854775807<=a)(ha1:a<=9223372036854775807)(hb:1<=b)(hb1:b<=9223372036854775807):
  Cq 290 #[.int .i64 a,.int .i64 b] w (Zq w (.int .i64 (a / b))):=by
 have HF:=Zh (zfM (a:=a) (b:=b) aa);have hq:=tdiv_between a b hb;have hq1:-9223372036854775807<=a.tdiv b:=aa
 have hq2:a.tdiv b<=9223372036854775807:=aa
 have hm:=Zh (Int.tmod_def a b);have hr:-9223372036854775807<=a.tmod b/\a.tmod b<=9223372036854775807:=by
  have h1:=Int.tmod_lt_of_pos a ((aa:0<b));have h2:=Int.lt_tmod_of_pos a ((aa:0<b));omega
 have hb0:(b==0)=false:=by simp;omega
 clear hq;by_cases zsu:a.tmod b<0
 ·have hd:decide (a.tmod b<0)=true:=by simpa using zsu
  have HV:=Zh (HF.out.trans (if_pos zsu));clear zsu HF;go_enter Tryz.func290,Tryz.ntmps290;go_wp2;go_ret;exact⟨by rw[HV.out];rfl,rfl⟩
 ·have hd:decide (a.tmod b<0)=false:=by simpa using zsu
  have HV:=Zh (HF.out.trans (if_neg zsu));clear zsu HF;go_enter Tryz.func290,Tryz.ntmps290;go_wp2;go_ret;exact⟨by rw[HV.out];rfl,rfl⟩
set_option maxRecDepth 10000 in
theorem zdj{a:Nat}(ha:a<9223372036854775808):
  Cq 255 #[.int .i64 a] w (Zq w (.int .i64 (zw a))):=by
 by_cases h0:a=0
 ·subst h0;go_enter Tryz.func255,Tryz.ntmps255;go_wp2;go_ret;exact⟨rfl,rfl⟩
 have hb0:((a:Int)==0)=false:=by simp;omega
 have h1:1<=a:=aa
 obtain⟨s,hs,ztR,zts,hL1,hL2⟩:=zfL h1 ha;obtain⟨L,hL⟩:=Xz (Lib.bitLen a);rw[<-hL]at hs hL1 hL2;have hp:(2:Nat)^s<=2^32:=Nat.pow_le_pow_right aa ztR;have hp1:1<=(2:Nat)^s:=Nat.one_le_two_pow;have hst:((L:Int)+1) / 2=(s:Int):=aa
 have hpw:(2:Int)^s=((2^s:Nat):Int):=af
 obtain⟨p,hpp⟩:=Xz (2^s);rw[<-hpp]at hpw hp1 hp zts;have HL:=Zh hL;have hc:=Tryz.bits_Len64 (a:Int) w aa aa;rw[(aa:((a:Int).toNat)=a),<-hL]at hc;have HC:=Zh hc;have HR:=Zh zts;clear hc hL h0 hpp hs zts;go_enter Tryz.func255,Tryz.ntmps255;go_wp2_with fail
 refine HC.out.mono ?_;rintro e w' ⟨rfl,rfl⟩;go_wp2;go_loop [3,4] (fun r _=>∃p:Nat,1<=p/\p<=4294967296/\Hid (zw a<=p)/\r= .int .i64 p) (fun r _=>(intOf r).toNat)
 case atStart=>exact⟨p,hp1,aa,HR,rfl⟩
 case round=>
  clear HR hpw hp hp1 hst HL HC hL1 hL2 ztR;obtain⟨p,hp1,hp,HR,rfl⟩:=hrel;have hge:=Zh (zfI (a:=a) hp1);have zsQ:=Zh (zfJ (a:=a) hp1);have hy:=zfK (a:=a) HR.out;obtain⟨y,ey⟩:=Xz (a / p);have zwu:(a:Int) / (p:Int)=(y:Int):=by rw[ey];simp
  rw[<-ey]at hge zsQ hy;obtain⟨q,eq⟩:=Xz ((p+y) / 2);have ztS:((p:Int)+(y:Int)) / 2=(q:Int):=aa
  have hq:q<=p+1:=aa
  rw[<-eq]at hge zsQ;clear ey eq;by_cases hle:p<=q
  ·have HV:=Zh (zsQ.out hle HR.out);go_wp2;go_ret;exact⟨by rw[HV.out];rfl,rfl⟩
  ·have hlt:q<p:=aa
   have hq1:1<=q:=by
    have:=hge.out;have h2:=(Qb a).2;rcases Zl 0 (zw a) with h|h
    ·omega
    ·have:zw a=0:=aa
     rw[this]at h2;omega
   go_wp2;refine⟨⟨q,hq1,aa,hge,by rw[ztS]⟩,by rw[ztS];simp[intOf]<;>omega⟩
theorem zk2{a b:Int}(ha0:-9223372036854775807<=a)(ha1:a<=9223372036854775807)(hb:1<=b)(hb1:b<=9223372036854775807):
  Cq 222 #[.int .i64 a,.int .i64 b] w (Zq w (.int .i64 (a / b))):=by
 have HF:=Zh (zfM (a:=a) (b:=b) aa);have hq:=tdiv_between a b hb;have hq1:-9223372036854775807<=a.tdiv b:=aa
 have hq2:a.tdiv b<=9223372036854775807:=aa
 have hm:=Zh (Int.tmod_def a b);have hr:-9223372036854775807<=a.tmod b/\a.tmod b<=9223372036854775807:=by
  have h1:=Int.tmod_lt_of_pos a ((aa:0<b));have h2:=Int.lt_tmod_of_pos a ((aa:0<b));omega
 have hb0:(b==0)=false:=by simp;omega
 clear hq;by_cases zsu:a.tmod b<0
 ·have hd:decide (a.tmod b<0)=true:=by simpa using zsu
  have HV:=Zh (HF.out.trans (if_pos zsu));clear zsu HF;go_enter Tryz.func222,Tryz.ntmps222;go_wp2;go_ret;exact⟨by rw[HV.out];rfl,rfl⟩
 ·have hd:decide (a.tmod b<0)=false:=by simpa using zsu
  have HV:=Zh (HF.out.trans (if_neg zsu));clear zsu HF;go_enter Tryz.func222,Tryz.ntmps222;go_wp2;go_ret;exact⟨by rw[HV.out];rfl,rfl⟩
set_option maxRecDepth 10000 in
theorem zk3{a:Nat}(ha:a<9223372036854775808):
  Cq 221 #[.int .i64 a] w (Zq w (.int .i64 (zw a))):=by
 by_cases h0:a=0
 ·subst h0;go_enter Tryz.func221,Tryz.ntmps221;go_wp2;go_ret;exact⟨rfl,rfl⟩
 have hb0:((a:Int)==0)=false:=by simp;omega
 have h1:1<=a:=aa
 obtain⟨s,hs,ztR,zts,hL1,hL2⟩:=zfL h1 ha;obtain⟨L,hL⟩:=Xz (Lib.bitLen a);rw[<-hL]at hs hL1 hL2;have hp:(2:Nat)^s<=2^32:=Nat.pow_le_pow_right aa ztR;have hp1:1<=(2:Nat)^s:=Nat.one_le_two_pow;have hst:((L:Int)+1) / 2=(s:Int):=aa
 have hpw:(2:Int)^s=((2^s:Nat):Int):=af
 obtain⟨p,hpp⟩:=Xz (2^s);rw[<-hpp]at hpw hp1 hp zts;have HL:=Zh hL;have hc:=Tryz.bits_Len64 (a:Int) w aa aa;rw[(aa:((a:Int).toNat)=a),<-hL]at hc;have HC:=Zh hc;have HR:=Zh zts;clear hc hL h0 hpp hs zts;go_enter Tryz.func221,Tryz.ntmps221;go_wp2_with fail
 refine HC.out.mono ?_;rintro e w' ⟨rfl,rfl⟩;go_wp2;go_loop [3,4] (fun r _=>∃p:Nat,1<=p/\p<=4294967296/\Hid (zw a<=p)/\r= .int .i64 p) (fun r _=>(intOf r).toNat)
 case atStart=>exact⟨p,hp1,aa,HR,rfl⟩
 case round=>
  clear HR hpw hp hp1 hst HL HC hL1 hL2 ztR;obtain⟨p,hp1,hp,HR,rfl⟩:=hrel;have hge:=Zh (zfI (a:=a) hp1);have zsQ:=Zh (zfJ (a:=a) hp1);have hy:=zfK (a:=a) HR.out;obtain⟨y,ey⟩:=Xz (a / p);have zwu:(a:Int) / (p:Int)=(y:Int):=by rw[ey];simp
  rw[<-ey]at hge zsQ hy;obtain⟨q,eq⟩:=Xz ((p+y) / 2);have ztS:((p:Int)+(y:Int)) / 2=(q:Int):=aa
  have hq:q<=p+1:=aa
  rw[<-eq]at hge zsQ;clear ey eq;by_cases hle:p<=q
  ·have HV:=Zh (zsQ.out hle HR.out);go_wp2;go_ret;exact⟨by rw[HV.out];rfl,rfl⟩
  ·have hlt:q<p:=aa
   have hq1:1<=q:=by
    have:=hge.out;have h2:=(Qb a).2;rcases Zl 0 (zw a) with h|h
    ·omega
    ·have:zw a=0:=aa
     rw[this]at h2;omega
   go_wp2;refine⟨⟨q,hq1,aa,hge,by rw[ztS]⟩,by rw[ztS];simp[intOf]<;>omega⟩
theorem StV.rowAt(h:StV w A (Qp m))(hn:AllLen m m.length)(hk:k<m.length):
  ∃b o b1 o1 c1 b2 o2 c2,A=some ⟨b,o,none⟩/\m.length-k<=c1/\c1<=9223372036854775807/\m.length-k<=c2/\c2<=9223372036854775807/\
   (∀w',Ext w w'->w'.cell? ⟨b,o+k,none⟩=some (.slice (some ⟨b1,o1,none⟩) (m.length-k) c1)/\w'.cell? ⟨b1,o1,none⟩=some (.slice (some ⟨b2,o2,none⟩) (m.length-k) c2)/\b<w'.heap.size/\b1<w'.heap.size/\b2<w'.heap.size)/\
   ∀j,j<m.length-k->∃g B n c,IntV w g B n c (ent (zm m k).2 0 j)/\∀w',Ext w w'->w'.cell? ⟨b2,o2+j*2,none⟩=some (.bool g)/\w'.cell? ⟨b2,o2+j*2+1,none⟩=some (.slice B n c):=by
 have hs:(Qp m)[k]? =some (zm m k).2:=by simp[Qp,hk]
 obtain⟨b,o,B1,c1,hA,e1,hM,l1,l2,hb⟩:=h.at_ hs;have zss:=ZL m k;have zsy:=zag m hn k;have hr:(zm m k).2[0]? =some ((zm m k).2[0]'aa):=af
 have hl0:((zm m k).2[0]'aa).length=m.length-k:=zsy _ (getElem_mem _);obtain⟨b1,o1,B2,c2,hB1,e2,hI,p1,p2,hb1⟩:=hM.at_ hr;subst hB1;rw[hl0]at e2 p1;rw[zss]at e1 l1;obtain⟨b2,o2,-,-,-,-,hB2,-,-,-,hb2⟩:=hI.at_ (i:=0) aa;subst hB2;simp only[Nat.add_zero]at e2;refine⟨b,o,b1,o1,c1,b2,o2,c2,hA,l1,l2,p1,p2,fun w' hx=>⟨?_,?_,Nat.lt_of_lt_of_le hb hx.size,Nat.lt_of_lt_of_le hb1 hx.size,Nat.lt_of_lt_of_le hb2 hx.size⟩,fun j hj=>?_⟩
 ·rw[hx.below.cell (p:=⟨b,o+k,none⟩) hb];exact e1
 ·rw[hx.below.cell (p:=⟨b1,o1,none⟩) hb1];exact e2
 ·obtain⟨b',o',g,B,n,c,hB,d1,d2,hV,-⟩:=hI.at_ (i:=j) aa;injection hB with hB
  injection hB with x1 x2
  subst x1 x2;have he:ent (zm m k).2 0 j=((zm m k).2[0]'aa)[j]'aa:=zaf hr af;rw[he];refine⟨g,B,n,c,hV,fun w' hx=>⟨?_,?_⟩⟩
  ·rw[hx.below.cell (p:=⟨b2,o2+j*2,none⟩) hb2];exact d1
  ·rw[hx.below.cell (p:=⟨b2,o2+j*2+1,none⟩) hb2];exact d2
def zl(m:List (List Int))(k:Nat):List Int:=1::(List.range k).map fun i=>ent (zm m i).2 0 0
theorem zfO(m:List (List Int))(k:Nat):zl m (k+1)=zl m k++[ent (zm m k).2 0 0]:=by simp[zl,List.range_succ]
theorem za2(m:List (List Int))(k:Nat):(zl m k).length=k+1:=by simp[zl]
theorem IntsV.snoc{A':Option Addr} 
  (hl:vs.length=zs.length*2) (h3:∀(i:Nat)(z:Int),zs[i]? =some z->∃g B n c,vs[i*2]? =some (.bool g)/\vs[i*2+1]? =some (.slice B n c)/\IntV w g B n c z)
  (hz:IntV w g B n c z) (hg:Grow ze 102 w w') (ha:Arr w' A' 102 (vs++[.bool g,.slice B n c])):IntsV w' A' (zs++[z]):=by
 refine⟨_,by simp[hl];omega,ha,fun i y hy=>?_⟩;rcases Zl i zs.length with hi|hi
 ·rw[getElem?_append_left hi]at hy;obtain⟨g1,B1,n1,c1,a1,a2,a3⟩:=h3 i y hy;exact⟨g1,B1,n1,c1,by rw[getElem?_append_left aa];exact a1,by rw[getElem?_append_left aa];exact a2,a3.grow hg ac⟩
 ·have hi':i=zs.length:=by
   have:i<(zs++[z]).length:=by
    rcases Zl i (zs++[z]).length with h|h
    ·exact h
    ·rw[List.getElem?_eq_none h]at hy;cases hy
   simp at this;omega
  subst hi';have:y=z:=by simpa using hy.symm
  subst this;exact⟨g,B,n,c,by rw[getElem?_append_right aa,hl];simp,by rw[getElem?_append_right aa,hl];simp,hz.grow hg ac⟩
theorem zfP{na:Bool}(ha:IntV w0 na A n c x)(h0:-9223372036854775808<=x)(h1:x<=9223372036854775807)[hx:Ext w0 w]:
  Cq 254 #[.agg #[.bool na,.slice A n c]] w (zA w (.int .i64 x)):=by
 go_enter Tryz.func254,Tryz.ntmps254;go_wp2_with (go_at_call 131;refine(zdf ha h0 h1).mono ?_;rintro e w' ⟨rfl,hs⟩)
 go_ret;exact⟨rfl,Step.of _ _⟩
section
variable {w w':World} {ze:Nat} {e e':TypeId} {size:Nat} {A:Option Addr} {n c:Nat} {xs:List Value}
theorem Own.far(h:Own w ze e size A n c xs)(hp:w.heap[p.block]? =some (.cells cs e' fr))(hne:e≠e')(u:Value):Own (w.setCell p u) ze e size A n c xs:=by
 refine⟨h.1,?_⟩;rcases h.2 with hv|⟨g,cap,cur,hv,h1,h2,h3⟩
 ·exact .inl hv
 ·refine .inr ⟨g,cap,cur,hv,h1,(Below.heap_setCell w p u g (fun hh=>?_)).trans h2,h3⟩;subst hh;rw[h2]at hp;injection hp with hp
  injection hp with _ he
  exact hne he
theorem Own.grow(h:Own w ze e size A n c xs){base':Nat}(hg:Grow base' e' w w')(hne:e≠e'):Own w' ze e size A n c xs:=by
 refine⟨h.1,?_⟩;rcases h.2 with hv|⟨g,cap,cur,hv,h1,h2,h3⟩
 ·exact .inl hv
 ·exact .inr ⟨g,cap,cur,hv,h1,hg.heap h2 hne,h3⟩
theorem Own.new(w:World)(e:TypeId)(size n:Nat)(cs:Array Value)(hn:cs.size=n*size)(hm:n<=9223372036854775807):Own (w.alloc (.cells cs e)) w.heap.size e size (some ⟨w.heap.size,0,none⟩) n n cs.toList:=
 ⟨by simpa using hn,.inr ⟨w.heap.size,n,cs,rfl,Zr,heap_alloc_new w _,Zr,by unfold maxLen;omega,hn,by rw[<-hn,<-Array.length_toList,List.take_length]⟩⟩
end
def VsOf(w:World)(vs:List Value)(zs:List Int):Prop:=∀(i:Nat)(z:Int),zs[i]? =some z->∃g B n c,vs[i*2]? =some (.bool g)/\vs[i*2+1]? =some (.slice B n c)/\IntV w g B n c z
theorem VsOf.snoc(h:VsOf w vs zs)(hl:vs.length=zs.length*2)(hz:IntV w g B n c z):VsOf w (vs++[.bool g,.slice B n c]) (zs++[z]):=fun i y hy=>by
 rcases Zl i zs.length with hi|hi
 ·rw[getElem?_append_left hi]at hy;obtain⟨g1,B1,n1,c1,a1,a2,a3⟩:=h i y hy;exact⟨g1,B1,n1,c1,by rw[getElem?_append_left aa];exact a1,by rw[getElem?_append_left aa];exact a2,a3⟩
 ·have hi':i=zs.length:=by
   have:i<(zs++[z]).length:=by
    rcases Zl i (zs++[z]).length with h|h
    ·exact h
    ·rw[List.getElem?_eq_none h]at hy;cases hy
   simp at this;omega
  subst hi';have:y=z:=by simpa using hy.symm
  subst this;exact⟨g,B,n,c,by rw[getElem?_append_right aa,hl];simp,by rw[getElem?_append_right aa,hl];simp,hz⟩
theorem VsOf.one(hz:IntV w g B n c z):VsOf w [.bool g,.slice B n c] [z]:=VsOf.snoc (vs:=[]) (zs:=[]) (fun i y hy=>by simp at hy) rfl hz
theorem VsOf.intsV(h:VsOf w vs zs)(hl:vs.length=zs.length*2)(ha:Arr w' A 102 vs)(hx:Ext w w'):IntsV w' A zs:=
 ⟨vs,hl,ha,fun i z hz=>by
  obtain⟨g,B,n,c,a1,a2,a3⟩:=h i z hz;exact⟨g,B,n,c,a1,a2,a3.ext hx⟩⟩
theorem zN{x:Value}(h:w.heap[b]? =some (.cells #[x,y] T (0,0))):w.cell? ⟨b,0,none⟩=some x/\w.cell? ⟨b,1,none⟩=some y/\w.frozen? ⟨b,0,none⟩=false/\w.frozen? ⟨b,1,none⟩=false/\b<w.heap.size:=
 ⟨by simp[World.cell?,h],by simp[World.cell?,h],by simp[World.frozen?,h],by simp[World.frozen?,h],zi h⟩
theorem zaj{x:Value}(h:w.heap[b]? =some (.cells #[x,y] T (0,0))):(w.setCell ⟨b,1,none⟩ u).heap[b]? =some (.cells #[x,u] T (0,0)):=by
 rw[zX h];rfl
theorem zbW{x:Value}(h:w.heap[b]? =some (.cells #[x,y] T (0,0))):(w.setCell ⟨b,0,none⟩ u).heap[b]? =some (.cells #[u,y] T (0,0)):=by
 rw[zX h];rfl
def Oth(T:TypeId)(w w':World):Prop:=∀(b:Nat)(cs:Array Value)(e:TypeId)(fr:Nat×Nat),e≠T->w.heap[b]? =some (.cells cs e fr)->w'.heap[b]? =some (.cells cs e fr)
section
variable {T e:TypeId} {w w' w2:World} {A:Option Addr}
theorem Oth.refl(T:TypeId)(w:World):Oth T w w:=fun _ _ _ _ _ h=>h
theorem Oth.of_ext(hx:Ext w w'):Oth T w w':=fun _ _ _ _ _ h=>zg hx h
theorem Oth.trans(h:Oth T w w')(h':Oth T w' w2):Oth T w w2:=fun b cs e fr hn hb=>h' b cs e fr hn (h b cs e fr hn hb)
theorem Oth.of_grow(h:Grow ze T w w'):Oth T w w':=fun _ _ _ _ hn hb=>h.heap hb hn
theorem Oth.set(hp:w.heap[p.block]? =some (.cells cs T fr))(u:Value):Oth T w (w.setCell p u):=fun b cs' e fr' hn hb=>
 (Below.heap_setCell w p u b (fun hh=>by subst hh;rw[hp]at hb;injection hb with hb;injection hb with _ he;exact hn he.symm)).trans hb
theorem Oth.set2(hp:w.heap[b]? =some (.cells cs T (0,0)))(i j:Nat)(u v:Value):Oth T w ((w.setCell ⟨b,i,none⟩ u).setCell ⟨b,j,none⟩ v):=
 (Oth.set (p:=⟨b,i,none⟩) hp u).trans (Oth.set (p:=⟨b,j,none⟩) (zX hp u) v)
theorem Arr.oth(h:Arr w A e vs)(ho:Oth T w w')(hn:e≠T):Arr w' A e vs:=fun h0=>by
 obtain⟨b,o,cs,fr,rfl,hb,hc⟩:=h h0;exact⟨b,o,cs,fr,rfl,ho _ _ _ _ hn hb,hc⟩
theorem Ints.oth{k:IntKind}(h:Ints w A e k l)(ho:Oth T w w')(hn:e≠T):Ints w' A e k l:=Arr.oth h ho hn
theorem IntV.oth{neg:Bool}(h:IntV w neg A n c z)(ho:Oth T w w')(hn:212≠T):IntV w' neg A n c z:=by
 obtain⟨l,h1,h2,h3,h4,h5,h6,h7⟩:=h;exact⟨l,h1,h2,h3,h4,h5,Arr.oth h6 ho hn,h7⟩
theorem IntsV.oth(h:IntsV w A zs)(ho:Oth T w w')(h1:102≠T)(h2:212≠T):IntsV w' A zs:=by
 obtain⟨vs,a1,a2,a3⟩:=h;refine⟨vs,a1,a2.oth ho h1,fun i z hz=>?_⟩;obtain⟨g,B,n,c,b1,b2,b3⟩:=a3 i z hz;exact⟨g,B,n,c,b1,b2,b3.oth ho h2⟩
theorem MatV.oth(h:MatV w A m)(ho:Oth T w w')(h0:95≠T)(h1:102≠T)(h2:212≠T):MatV w' A m:=by
 obtain⟨vs,a1,a2,a3⟩:=h;refine⟨vs,a1,a2.oth ho h0,fun i z hz=>?_⟩;obtain⟨B,c,b1,b2,b3⟩:=a3 i z hz;exact⟨B,c,b1,b2.oth ho h1 h2,b3⟩
theorem StV.oth{s:List (List (List Int))}(h:StV w A s)(ho:Oth T w w')(h3:48≠T)(h0:95≠T)(h1:102≠T)(h2:212≠T):StV w' A s:=by
 obtain⟨vs,a1,a2,a3⟩:=h;refine⟨vs,a1,a2.oth ho h3,fun i z hz=>?_⟩;obtain⟨B,c,b1,b2,b3⟩:=a3 i z hz;exact⟨B,c,b1,b2.oth ho h0 h1 h2,b3⟩
theorem Mat64.oth(h:Mat64 w A m)(ho:Oth T w w')(h0:34≠T)(h1:2≠T):Mat64 w' A m:=by
 obtain⟨vs,a1,a2,a3⟩:=h;refine⟨vs,a1,a2.oth ho h0,fun i z hz=>?_⟩;obtain⟨B,c,b1,b2,b3⟩:=a3 i z hz;exact⟨B,c,b1,b2.oth ho h1,b3⟩
theorem Own.oth{size:Nat}{xs:List Value}(h:Own w ze e size A n c xs)(ho:Oth T w w')(hn:e≠T):Own w' ze e size A n c xs:=by
 refine⟨h.1,?_⟩;rcases h.2 with hv|⟨g,cap,cur,hv,h1,h2,h3⟩
 ·exact .inl hv
 ·exact .inr ⟨g,cap,cur,hv,h1,ho _ _ _ _ hn h2,h3⟩
end
def QE(l:List Int):Bool:=l.all fun x=>decide (-1099511627776<=x)&&decide (x<=1099511627776)
theorem JR :QE l=true↔∀x∈l,-1099511627776<=x/\x<=1099511627776:=by simp[QE]
theorem zfQ(hx:l[k]? =some x)(h:¬(-1099511627776<=x/\x<=1099511627776)):QE l=false:=by
 rcases hb:QE l with _|_
 ·rfl
 ·exact absurd (JR.1 hb x (Zm hx)) h
theorem zbX(h:Ints w0 X 2 .i64 l)(hl:l.length<=1099511627776)[hx:Ext w0 w]:
  Cq 214 #[.slice X l.length c] w (Zq w (.bool (QE l))):=by
 have h0:=h.ext hx;go_enter Tryz.func214,Tryz.ntmps214;go_wp2;go_loop [4,7] (fun _ i=>∃k:Nat,k<=l.length/\i= .int .i64 k/\Hid (∀j x,j<k->l[j]? =some x->-1099511627776<=x/\x<=1099511627776)) (fun _ i=>l.length-(intOf i).toNat)
 case atStart=>exact⟨0,aa,rfl,Zh (fun i x hi=>absurd hi aa)⟩
 case round=>
  obtain⟨k,hk,rfl,hR⟩:=hrel;by_cases hlt:k<l.length
  ·obtain⟨b,o,x,rfl,hkx,e1,f1⟩:=h0.at_ hlt;have HK:=Zh hkx;clear hkx;by_cases hlo:x< -1099511627776
   ·have HF:=Zh (zfQ HK.out aa);have ztP:decide (x< -1099511627776)=true:=by simpa using hlo
    clear hlo;go_wp2;go_ret;exact⟨by rw[HF.out];rfl,rfl⟩
   ·have ztP:decide (x< -1099511627776)=false:=by simpa using hlo
    by_cases hhi:1099511627776<x
    ·have HF:=Zh (zfQ HK.out aa);have ztQ:decide (1099511627776<x)=true:=by simpa using hhi
     clear hlo hhi;go_wp2;go_ret;exact⟨by rw[HF.out];rfl,rfl⟩
    ·have ztQ:decide (1099511627776<x)=false:=by simpa using hhi
     have hx1:-1099511627776<=x:=aa
     have hx2:x<=1099511627776:=aa
     clear hlo hhi;go_wp2;refine⟨⟨k+1,aa,by go_num,Zh fun j y hj hy=>?_⟩,by simp[intOf]<;>omega⟩;rcases Zl j k with h|h
     ·exact hR.out j y h hy
     ·obtain rfl:j=k:=aa
      rw[HK.out]at hy;injection hy with hy
      subst hy;exact⟨hx1,hx2⟩
  ·obtain rfl:k=l.length:=aa
   have HF:Hid (QE l=true):=Zh (JR.2 fun x hx=>by
    obtain⟨j,hj,e⟩:=List.getElem_of_mem hx;exact hR.out j x hj (by simp[e,hj]))
   clear hlt;go_wp2;go_ret;exact⟨by rw[HF.out];rfl,rfl⟩
def Qr(n:Nat)(l:List Int):Bool:=decide (l.length=n)&&QE l
theorem zk4(h:l.length≠n):Qr n l=false:=by simp[Qr,h]
theorem zdk(h:l.length=n):Qr n l=QE l:=by simp[Qr,h]
theorem zdl(h:Ints w0 X 2 .i64 l)(hl:l.length<=1099511627776)[hx:Ext w0 w]:
  Cq 154 #[.int .i64 n,.slice X l.length c] w (Zq w (.bool (Qr n l))):=by
 by_cases hn:l.length=n
 ·have HF:=Zh (zdk hn);subst hn;go_enter Tryz.func154,Tryz.ntmps154;go_wp2_with (go_at_call 214;refine(zbX h hl).mono ?_;rintro e w' ⟨rfl,rfl⟩)
  go_ret;exact⟨by rw[HF.out];rfl,rfl⟩
 ·have HF:=Zh (zk4 hn);have hb:((l.length:Int)==(n:Int))=false:=by simp;omega
  clear hn;go_enter Tryz.func154,Tryz.ntmps154;go_wp2_with (go_at_call 214;refine(zbX h hl).mono ?_;rintro e w' ⟨rfl,rfl⟩)
  go_ret;exact⟨by rw[HF.out];rfl,rfl⟩
def zx:List Int->List Int->Int
 |a::l,b::m=>a*b+zx l m
 |_,_=>0
theorem za3(m:List Int):zx [] m=0:=by cases m<;>rfl
theorem za4:∀(l m:List Int)(k:Nat)(a b:Int),l[k]? =some a->m[k]? =some b->zx (l.take (k+1)) (m.take (k+1))=zx (l.take k) (m.take k)+a*b
 |[],_,_,_,_,h,_=>by simp at h
 |_::_,[],_,_,_,_,h=>by simp at h
 |x::l,y::m,0,a,b,h,h'=>by
  simp at h h';subst h h';simp[zx,za3]
 |x::l,y::m,k+1,a,b,h,h'=>by
  have:=za4 l m k a b (by simpa using h) (by simpa using h');simp only[List.take_succ_cons,zx,this];omega
theorem Qs{a b A B:Int}(h1:-A<=a)(h2:a<=A)(h3:-B<=b)(h4:b<=B):-(A*B)<=a*b/\a*b<=A*B:=by
 have hA:0<=A:=aa
 have hB:0<=B:=aa
 have hab:(a*b).natAbs<=(A*B).natAbs:=by
  rw[Int.natAbs_mul,Int.natAbs_mul];exact Nat.mul_le_mul aa aa
 have hAB:0<=A*B:=Int.mul_nonneg hA hB;omega
theorem zak{A B:Int}(hA:0<=A)(hB:0<=B):∀(l m:List Int),(∀x∈l,-A<=x/\x<=A)->(∀x∈m,-B<=x/\x<=B)->-((l.length:Int)*(A*B))<=zx l m/\zx l m<=(l.length:Int)*(A*B)
 |[],m,_,_=>by simp[za3]
 |x::l,[],_,_=>by
  have:0<=((x::l).length:Int)*(A*B):=Int.mul_nonneg aa (Int.mul_nonneg hA hB);simp only[zx];omega
 |x::l,y::m,h1,h2=>by
  have ih:=zak hA hB l m (fun z hz=>h1 z (by simp[hz])) (fun z hz=>h2 z (by simp[hz]));have hx:=h1 x af;have hy:=h2 y af;have:=Qs hx.1 hx.2 hy.1 hy.2;simp only[zx,List.length_cons];have e:((l.length+1:Nat):Int)*(A*B)=(l.length:Int)*(A*B)+A*B:=by rw[Int.natCast_add,Int.add_mul];omega
  rw[e];omega
def zdm(m:List (List Int)):Prop:=∀r∈m,∀x∈r,-262144<=x/\x<=262144
def zY(m:List (List Int))(x:List Int):List Int:=m.map fun r=>zx r x
theorem zal(m:List (List Int))(x:List Int):(zY m x).length=m.length:=by simp[zY]
theorem zk5(l:List Int)(k:Nat)(n:Nat)(s t:Int)(hk:k<=l.length):(l.take k++s::List.replicate n 0).set k t=l.take k++t::List.replicate n 0:=by
 rw[List.set_append_right _ _ (by simp;omega)];simp[Nat.min_eq_left hk]
theorem Jm{e:TypeId}{k:IntKind}(h:Ints w (some ⟨b,o,none⟩) e k l)(hx:l[i]? =some x):w.cell? ⟨b,o+i,none⟩=some (.int k x)/\b<w.heap.size:=by
 obtain⟨b',o',y,hA,h1,h2,h3⟩:=h.at_ (i:=i) (Zg.1 hx).1;injection hA with hA
 injection hA with x1 x2
 subst x1 x2;rw[hx]at h1;injection h1 with h1
 subst h1;exact⟨h2,h3⟩
theorem zk6(h:IntsA w (some ⟨b,o,none⟩) l)(hx:l[i]? =some x):w.cell? ⟨b,o+i,none⟩=some (.int .i64 x)/\b<w.heap.size:=by
 obtain⟨te,h⟩:=h;exact Jm h hx
theorem zdn(n:Nat)(k:IntKind):zH #[.int k 0] n=zO n k:=by
 apply Array.ext';rw[Qo];simp[zO]
theorem zfR{d:Nat}{x:List Int}(h:MatA w0 A m)(hX:Ints w0 X 2 .i64 x)(hn:AllLen m m.length)(hxl:x.length=m.length)(h8:m.length<=8)(hE:zdm m)(hR:∀y∈x,-1099511627776<=y/\y<=1099511627776)[hx:Ext w0 w]:
  Cq 162 #[.slice A m.length c,.slice X x.length d] w (zdg w 2 .i64 (zY m x)):=by
 have h0:=h.ext hx;have hX0:=hX.ext hx;obtain⟨n,hN⟩:=Xz m.length;rw[hxl,<-hN];rw[<-hN]at h8;have hmk:=ZH (P:=Tryz.prog) Tryz.underlying34 qb aa (n:Int) aa aa;have HN:=Zh hN;have HX:=Zh hxl;have HE:=Zh hE;have HR:=Zh hR;have HA:=Zh hn;clear hN hxl hE hR hn;obtain⟨Y,hY⟩:=Xz (zY m x);have HY:=Zh hY;rw[<-hY];clear hY;have HYl:Hid (Y.length=n):=Zh (by rw[HY.out,zal,HN.out])
 go_enter Tryz.func162,Tryz.ntmps162;go_wp2;go_loopw [6,7,8,9,15] (fun _ _ _ _ i wr=>∃k:Nat,k<=n/\i= .int .i64 k/\Row wr w.heap.size 2 .i64 (Y.take k++List.replicate (n-k) 0)/\Ext w wr) (fun _ _ _ _ i _=>n-(intOf i).toNat)
 case atStart=>exact⟨0,aa,rfl,by have:=Row.made w n .i64 2;simpa[zO,zdn] using this,Zi⟩
 case round=>
  obtain⟨k,hk,rfl,hV,hxk⟩:=hrel;by_cases hlt:k<n
  ·obtain⟨wi,rfl⟩:∃wi:World,wi=wr:=⟨_,rfl⟩;have hkm:k<m.length:=by have:=HN.out;omega
   obtain⟨b,o,B,c1,rfl,e1,e2,f1,f2,f3⟩:=h0.at_ (i:=k) (r:=m[k]) (by simp[hkm]);have hrl:m[k].length=n:=by rw[HN.out];exact HA.out _ (getElem_mem hkm)
   obtain⟨r,hr⟩:=Xz (m[k]);rw[<-hr]at hrl e1 e2 f1;rw[hrl]at e1 f1;have HRE:Hid (∀x∈r,-262144<=x/\x<=262144):=Zh (by rw[hr];exact HE.out _ (getElem_mem hkm));have HYk:Hid (Y[k]? =some (zx r x)):=Zh (by rw[HY.out,hr];simp[zY,hkm]);have HRL:=Zh hrl;have e3:wi.cell? ⟨b,o+k,none⟩=some (.slice B n c1):=(hxk.below.cell (p:=⟨b,o+k,none⟩) f3).trans e1;have f4:b<wi.heap.size:=Nat.lt_of_lt_of_le f3 hxk.size
   have e2':=Zh e2;clear hr hrl e1 f3;go_wp2;go_loopw [8,9,22] (fun _ _ j wr=>∃q:Nat,q<=n/\j= .int .i64 q/\Row wr w.heap.size 2 .i64 (Y.take k++zx (r.take q) (x.take q)::List.replicate (n-k-1) 0)/\Ext w wr/\True) (fun _ _ j _=>n-(intOf j).toNat)
   case atStart=>
    refine⟨0,aa,rfl,?_,hxk,trivial⟩;have e:List.replicate (n-k) (0:Int)=0::List.replicate (n-k-1) 0:=by rw[<-List.replicate_succ];congr 1;omega
    rw[e]at hV;simpa[zx] using hV
   case round=>
    obtain⟨q,hq,rfl,hV,hxq,hG⟩:=hrel;by_cases hqt:q<n
    ·obtain⟨b1,o1,a,hB,ha,-,-⟩:=e2.at_ (i:=q) (by have:=HRL.out;omega);subst hB;obtain⟨b2,o2,y,hX1,hy,-,-⟩:=hX0.at_ (i:=q) (by have:=HX.out;have:=HN.out;omega);subst hX1;obtain⟨g1,g2⟩:=zk6 (e2'.out.ext hxq) ha;obtain⟨g3,g4⟩:=Jm (hX0.ext hxq) hy;have ba:=HRE.out a (Zm ha);have bb:=HR.out y (Zm hy);have bs:=zak (A:=262144) (B:=1099511627776) aa aa (r.take q) (x.take q) (fun z hz=>HRE.out z (List.mem_of_mem_take hz)) (fun z hz=>HR.out z (List.mem_of_mem_take hz))
     have bm:=Qs ba.1 ba.2 bb.1 bb.2;have ztn:=Zh (za4 r x q a y ha hy);rw[JM (by have:=HRL.out;omega)]at bs;obtain⟨s,hs⟩:=Xz (zx (r.take q) (x.take q));rw[<-hs]at bs ztn hV;have hc1:wr.cell? ⟨w.heap.size,k,none⟩=some (.int .i64 s):=by
      obtain⟨z,z1,z2⟩:=hV.cell (i:=k) (by simp;have:=HYl.out;omega);rw[getElem?_append_right (by simp;omega)]at z1;rw[show k-(List.take k Y).length=0 by simp;have:=HYl.out;omega]at z1;simp at z1;rw[z2,z1]
     have hc2:=hV.frozen k;have hsz:=hV.lt;have bs1:-2305843009213693952<=s:=aa
     have bs2:s<=2305843009213693952:=aa
     obtain⟨ba1,ba2⟩:=ba;obtain⟨bb1,bb2⟩:=bb;obtain⟨bm1,bm2⟩:=bm;have bm3:-288230376151711744<=a*y:=aa
     have bm4:a*y<=288230376151711744:=aa
     clear hs bs ha hy bm1 bm2;go_wp2;go_region
     go_wp2;refine⟨⟨q+1,aa,by go_num,?_,?_,?_⟩,by simp[intOf]<;>omega⟩
     ·have h2:=(hV.ext (Zi:Ext wr wr.drew)).set k (s+a*y);rw[zk5 _ _ _ _ _ (by have:=HYl.out;omega)]at h2;rw[ztn.out];exact h2
     ·exact(Zi:Ext w wr.drew).setCell (p:=⟨w.heap.size,k,none⟩) Zr _
     ·trivial
    ·obtain rfl:q=n:=aa
     clear hqt;go_wp2;refine⟨⟨k+1,aa,by go_num,?_,hxq⟩,by simp[intOf]<;>omega⟩;have e1:r.take q=r:=List.take_of_length_le (by rw[HRL.out];omega);have e2:x.take q=x:=List.take_of_length_le (by rw[HX.out,<-HN.out];omega);rw[e1,e2]at hV;have e3:Y.take (k+1)=Y.take k++[zx r x]:=by rw[List.take_add_one,HYk.out];rfl
     rw[e3,List.append_assoc,List.singleton_append];exact hV
  ·obtain rfl:k=n:=aa
   clear hlt;go_wp2;go_ret;have e:Y.take k++List.replicate (k-k) 0=Y:=by rw[Nat.sub_self,List.take_of_length_le (by rw[HYl.out];omega)];simp
   rw[e]at hV;exact⟨some ⟨w.heap.size,0,none⟩,k,by rw[HYl.out];rfl,hV.ints,by rw[HYl.out];omega,aa,Step.of _ _⟩
def zk7(w:World)(m:List (List Int))(e:Ending)(w':World):Prop:=∃A c B d,e= .returned (.agg #[.slice A m.length c,.slice B (m.length+1) d])/\StV w' A (Qp m)/\IntsV w' B (zl m m.length)/\m.length<=c/\c<=9223372036854775807/\m.length+1<=d/\d<=9223372036854775807/\Step w w'
theorem zk8(h:MatA w0 A m)(h1:1<=m.length)(h8:m.length<=8)(hn:AllLen m m.length)(hF:qf m)(hok:ElimOK m)[hx:Ext w0 w]:
  Cq 253 #[.slice A m.length c] w (zk7 w m):=by
 have HN:=Zh hn;have HOK:=Zh hok;have HFI:=Zh hF;clear hn hok hF;go_enter Tryz.func253,Tryz.ntmps253;go_wp2_with (first|(go_at_call 129;refine(zdh h m.length h1 aa h1 aa HN.out HFI.out).mono ?_;rintro e w1 ⟨A1,c1,rfl,hM,k1,k2,hs1⟩)|(go_at_call 257;refine(zfD hM h1 aa HN.out HOK.out).mono ?_;rintro e w2 ⟨A2,c2,rfl,hS,k3,k4,hs2⟩)|(go_at_call 185;refine(zbN 1 aa aa _).mono ?_;rintro e w3 ⟨g3,B3,n3,d3,rfl,hI,hs3⟩))
 have hsl:(Qp m).length=m.length:=by simp[Qp]
 rw[hsl];have HSL:=Zh hsl;clear hsl;have hx3:Ext w2 w3:=Zi;obtain⟨b,o,-,-,-,-,-,-,rfl,-⟩:=StV.rowAt hS HN.out (k:=0) aa;have ztD:Own ((w3.alloc (.cells #[.bool g3,.slice B3 n3 d3] 102)).alloc (.cells #[.slice (some ⟨b,o,none⟩) m.length c2,.slice (some ⟨w3.heap.size,0,none⟩) 1 1] 291)) w3.heap.size 102 2 (some ⟨w3.heap.size,0,none⟩) 1 1 [.bool g3,.slice B3 n3 d3]:=(Own.new w3 102 2 1 #[.bool g3,.slice B3 n3 d3] rfl aa).ext Zi
 go_loopw [9,26] (fun _ i wr=>∃(k:Nat) (B:Option Addr) (d:Nat) (vs:List Value),k<=m.length/\i= .int .i64 k/\wr.heap[w3.heap.size+1]? =some (.cells #[.slice (some ⟨b,o,none⟩) m.length c2,.slice B (k+1) d] 291 (0,0))/\Own wr w3.heap.size 102 2 B (k+1) d vs/\Hid (VsOf w3 vs (zl m k))/\Ext w3 wr) (fun _ i _=>m.length-(intOf i).toNat)
 case atStart=>
  refine⟨0,_,_,_,aa,rfl,?_,ztD,Zh (VsOf.one hI),Zi⟩
  ·have:=heap_alloc_new (w3.alloc (.cells #[.bool g3,.slice B3 n3 d3] 102)) (.cells #[.slice (some ⟨b,o,none⟩) m.length c2,.slice (some ⟨w3.heap.size,0,none⟩) 1 1] 291);simpa using this
 case round=>
  obtain⟨k,B,d,vs,hk,rfl,ztf,zsq,HZ,hxr⟩:=hrel;by_cases hlt:k<m.length
  ·obtain⟨b',o',b1,o1,c1',b2,o2,c2',hA,l1,l2,l3,l4,L5,L6⟩:=StV.rowAt hS HN.out hlt;injection hA with hA
   injection hA with x1 x2
   subst x1 x2;obtain⟨g,B',n',c',hV,L7⟩:=L6 0 aa;obtain⟨p1,p2,p3,p4,p5⟩:=L5 wr (Ext.trans hx3 hxr);obtain⟨p6,p7⟩:=L7 wr (Ext.trans hx3 hxr);simp only[Nat.zero_mul,Nat.add_zero]at p6 p7;have L7':=Zh L7;have hk1:1<=m.length-k:=aa
   obtain⟨r,hr⟩:=Xz (m.length-k);rw[<-hr]at p1 p2 hk1 l1 l3;have HR:=Zh hr;have hr0:0<r:=aa
   clear L5 L6 L7 hr;have hc1:wr.cell? ⟨w3.heap.size+1,0,none⟩=some (.slice (some ⟨b,o,none⟩) m.length c2):=by simp[World.cell?,ztf]
   have hc2:wr.cell? ⟨w3.heap.size+1,1,none⟩=some (.slice B (k+1) d):=by simp[World.cell?,ztf]
   have hf2:wr.frozen? ⟨w3.heap.size+1,1,none⟩=false:=by simp[World.frozen?,ztf]
   have hsz:w3.heap.size+1<wr.heap.size:=zi ztf;have hB:=Zh ztf;clear ztf;go_wp2;go_region_law ((refine QS _ rfl (.tmp 31) (.tmp 37) 95 rfl w3.heap.size 102 (.agg #[.bool false,.slice none 0 0]) 2 32 Tryz.underlying95 j3 rfl ac ac B (k+1) d vs (by simp[Act.eval]) (zsq.ext Zi) (some ⟨wr.heap.size,0,none⟩) 1 1 [.bool g,.slice B' n' c'] (by simp[Act.eval]) ((Arr.new wr 102 #[.bool g,.slice B' n' c']).ext Zi) rfl (by simp[Value.oneCell']) aa (by simp<;>omega) ?_);intro A1 d1 w4 zsW hg4;have hb4:=hg4.heap (zg (Zi:Ext wr ((wr.alloc (Obj.cells #[Value.bool g,Value.slice B' n' c'] 102)).drew)) hB.out) ac;have hc4:w4.cell? ⟨w3.heap.size+1,1,none⟩=some (.slice B (k+1) d):=(by simp[World.cell?,hb4]);have hf4:w4.frozen? ⟨w3.heap.size+1,1,none⟩=false:=(by simp[World.frozen?,hb4]);have hs4:w3.heap.size+1<w4.heap.size:=zi hb4;have HB4:=Zh hb4;clear hb4)
   all_goals
    go_wp2;refine⟨⟨k+1,A1,d1,vs++[.bool g,.slice B' n' c'],aa,by go_num,?_,?_,?_,?_⟩,by simp[intOf]<;>omega⟩
    ·rw[zaj HB4.out]
    ·exact zsW.far (p:=⟨w3.heap.size+1,1,none⟩) HB4.out ac _
    ·rw[zfO];exact Zh (VsOf.snoc HZ.out (by rw[za2];exact zsq.len) (hV.ext hx3))
    ·exact(hg4.ext Zi Zr).setCell (p:=⟨w3.heap.size+1,1,none⟩) (Nat.le_succ _) _
  ·obtain rfl:k=m.length:=aa
   clear hlt;obtain⟨hc1,hc2,-,-,hsz⟩:=zN ztf;have hr1:wr.heap[w.heap.size]? =some (.cells #[.slice none 0 0,.slice none 0 0] 291 (0,0)):=zg (Ext.trans (Ext.trans (hs1.ext) (hs2.ext)) (Ext.trans hs3.ext hxr)) (heap_alloc_new w _);obtain⟨r1,r2,r3,r4,r5⟩:=zN hr1;have HB:=Zh ztf;have HR:=Zh hr1;clear ztf hr1;go_wp2;refine bodyPost_ret (v:= .agg #[.slice (some ⟨b,o,none⟩) m.length c2,.slice B (m.length+1) d]) (by simp[results,Tryz.results253,go_sem,r1,r2]) rfl ⟨_,_,_,_,rfl,?_,?_,by have:=HSL.out;omega,k4,zsq.cap.1,zsq.cap.2,?_⟩
   ·exact(hS.ext (Ext.trans hx3 hxr)).oth (Oth.set2 HR.out 0 1 _ _) ac ac ac ac
   ·exact(HZ.out.intsV (by rw[za2];exact zsq.len) zsq.arr hxr).oth (Oth.set2 HR.out 0 1 _ _) ac ac
   ·have hxw:Ext w wr:=Ext.trans (Ext.trans (Ext.trans (Zi:Ext w (w.alloc (.cells #[.slice none 0 0,.slice none 0 0] 291))) hs1.ext) hs2.ext) (Ext.trans hs3.ext hxr);exact((hxw.setCell (p:=⟨w.heap.size,0,none⟩) Zr _).setCell (p:=⟨w.heap.size,1,none⟩) Zr _).toStep
end Go.Proofs.YtgoaelchibpffaaGreat

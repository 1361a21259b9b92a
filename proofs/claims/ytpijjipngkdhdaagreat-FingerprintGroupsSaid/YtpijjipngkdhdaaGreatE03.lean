import Derived.Test.YtpijjipngkdhdaaGreatE02
import Derived.Deep.RegionHeld3
set_option maxHeartbeats 8000000
set_option linter.unusedVariables false
set_option linter.unusedSimpArgs false
namespace Go.Proofs.YtpijjipngkdhdaaGreat
open Go.RowKit
open List (getElem?_eq_none getElem?_set_ne getElem?_set_self getElem_mem)
variable {p:Addr} {cs cs':Array Value} {na nb neg:Bool} {x y z:Int} {m:List (List Int)} {l r zs:List Int} {c cols d g i k n pb q s ze:Nat} {F:Nat->Int} {fr:Nat×Nat} {A B:Option Addr} {P:Program} {T e t:TypeId} {w w' w0 w1:World}
theorem ziP{m:List Int}(na nb:Bool)(ha:Ints w0 A 305 .u32 l)(hb:Ints w1 B 305 .u32 m)(hl:Limbs l)(hm:Limbs m)(tl:Tight l)(tm:Tight m)
  (h1:l.length<=1099511627776) (h2:m.length<=1099511627776) [hx:Ext w0 w] [hy:Ext w1 w]:
  Cq 377 #[.bool na,.slice A l.length c,.bool nb,.slice B m.length d] w (zx w (zn na (val l)+zn nb (val m))):=by
 by_cases hn:na=nb
 ·subst hn;go_enter Tryz.func377,Tryz.ntmps377;go_wp2_with fail
  refine(zen ha hb hl hm h1 h2).mono ?_;rintro e w1 ⟨B1,d1,l1,rfl,hi1,hl1,ht1,hv1,hd1,hd2,hs1⟩;have HV:=Zh hv1;clear hv1;go_wp2_with fail
  refine(Jf na hi1 hl1 ht1 hd1 hd2).mono ?_;rintro e w2 ⟨g,B,k,d,rfl,hz,hs2⟩;obtain⟨q0,q1,q2,q3,q4,q5⟩:=qu w w2 (.bool false) (.slice none 0 0) 178;have Q0:=Zh q0;clear q0;go_wp2;refine bodyPost_ret (v:= .agg #[.bool g,.slice B k d]) (by simp[results,Tryz.results377,go_sem,q1,q2]) rfl ⟨_,_,_,_,rfl,?_,Step.of _ _⟩;have e1:zn na (val l1)=zn na (val l)+zn na (val m):=by rw[HV.out];cases na<;>simp[zn];omega
  rw[e1]at hz;exact hz.boxed (by decide) Q0.out _ _
 ·have hnb:(na==nb)=false:=by simp[hn]
  by_cases hle:val m<=val l
  ·have zqf:m.length<=l.length:=by
    rcases Zl l.length m.length with h|h
    ·have:=jP hl hm tm h;omega
    ·exact h
   have hc:zk (val l) (val m)=0∨zk (val l) (val m)=1:=by unfold zk;split;omega;split<;>simp
   have hge:0<=zk (val l) (val m):=by omega
   have HE:=Zh (show zn na (val l-val m)=zn na (val l)+zn nb (val m) by cases na<;>cases nb<;>simp_all [zn]<;>omega);clear hn hc;go_enter Tryz.func377,Tryz.ntmps377;go_wp2_with fail
   refine(zcb ha hb hl hm tl tm (by omega) (by omega)).mono ?_;rintro e w3 ⟨rfl,hs3⟩;go_wp2_with fail
   refine(zcd ha hb hl hm h1 zqf hle).mono ?_;rintro e w1 ⟨B1,d1,l1,rfl,hi1,hl1,ht1,hv1,hd1,hd2,hs1⟩;have HV:=Zh hv1;clear hv1;go_wp2_with fail
   refine(Jf na hi1 hl1 ht1 hd1 hd2).mono ?_;rintro e w2 ⟨g,B,k,d,rfl,hz,hs2⟩;obtain⟨q0,q1,q2,q3,q4,q5⟩:=qu w w2 (.bool false) (.slice none 0 0) 178;have Q0:=Zh q0;clear q0;go_wp2;refine bodyPost_ret (v:= .agg #[.bool g,.slice B k d]) (by simp[results,Tryz.results377,go_sem,q1,q2]) rfl ⟨_,_,_,_,rfl,?_,Step.of _ _⟩;rw[HV.out,HE.out]at hz;exact hz.boxed (by decide) Q0.out _ _
  ·have zqf:l.length<=m.length:=by
    rcases Zl m.length l.length with h|h
    ·have:=jP hm hl tl h;omega
    ·exact h
   have hc:=qj (show val l<val m by omega);have HE:=Zh (show zn nb (val m-val l)=zn na (val l)+zn nb (val m) by cases na<;>cases nb<;>simp_all [zn]<;>omega);clear hn;go_enter Tryz.func377,Tryz.ntmps377;go_wp2_with fail
   refine(zcb ha hb hl hm tl tm (by omega) (by omega)).mono ?_;rintro e w3 ⟨rfl,hs3⟩;go_wp2_with fail
   refine(zcd hb ha hm hl h2 zqf (by omega)).mono ?_;rintro e w1 ⟨B1,d1,l1,rfl,hi1,hl1,ht1,hv1,hd1,hd2,hs1⟩;have HV:=Zh hv1;clear hv1;go_wp2_with fail
   refine(Jf nb hi1 hl1 ht1 hd1 hd2).mono ?_;rintro e w2 ⟨g,B,k,d,rfl,hz,hs2⟩;obtain⟨q0,q1,q2,q3,q4,q5⟩:=qu w w2 (.bool false) (.slice none 0 0) 178;have Q0:=Zh q0;clear q0;go_wp2;refine bodyPost_ret (v:= .agg #[.bool g,.slice B k d]) (by simp[results,Tryz.results377,go_sem,q1,q2]) rfl ⟨_,_,_,_,rfl,?_,Step.of _ _⟩;rw[HV.out,HE.out]at hz;exact hz.boxed (by decide) Q0.out _ _
theorem qD(h:IntV w0 neg A n c z)[hx:Ext w0 w]:
  Cq 315 #[.slice A n c] w (Zj w (.slice A n c)):=by
 obtain⟨l,rfl,h2,h3,h4,h5,h6,h7,h8⟩:=h;refine(JM (h6.ext hx) h7 h8).mono ?_;rintro e w' ⟨m,hm,ht,hv,rfl,rfl⟩;have:m=l.length:=by
  have e1:val (l.drop m)=0:=by
   have:=za8 (l:=l) m;have hp:=QI (l.take m).length;have h9:(4294967296:Int)^(l.take m).length*val (l.drop m)=0:=by omega
   rcases Int.mul_eq_zero.1 h9 with h|h
   ·omega
   ·exact h
  have e2:Tight (l.drop m):=by
   intro hh;apply h3;rw[List.getLast?_drop]at hh;split at hh
   ·simp at hh
   ·exact hh
  have e3:=(zaq (h2.drop m) e2).1 e1;have:=List.drop_eq_nil_iff.1 e3;omega
 subst this;exact⟨rfl,rfl⟩
theorem IntV.boxedN{g:Bool}{z':Int}(hz:IntV w g B k d z)(he:z=z')(hT:305≠T)(q:w.heap[s]? =some (.cells cs T (0,0)))(u v:Value):
  IntV ((w.setCell ⟨s,0,none⟩ u).setCell ⟨s,1,none⟩ v) g B k d z':=he▸hz.boxed hT q u v
theorem ziQ(ha:IntV w0 na A n c x)(hb:IntV w1 nb B k d y)
  (h1:n<=1099511627776) (h2:k<=1099511627776) [hx:Ext w0 w] [hy:Ext w1 w]:
  Cq 354 #[.agg #[.bool na,.slice A n c],.agg #[.bool nb,.slice B k d]] w (zx w (x-y)):=by
 obtain⟨la,rfl,hl,tl,hv,hsx,hi,h7,h8⟩:=id ha;obtain⟨lb,rfl,hl',tl',hv',hsy,hi',h7',h8'⟩:=id hb;have HE:=Zh (show zn na (val la)+zn (!nb) (val lb)=x-y by subst hsx hsy;rw[hv,hv'];unfold zn;split<;>split<;>simp_all<;>omega);clear hv hv' hsx hsy;go_enter Tryz.func354,Tryz.ntmps354;go_wp2;go_region_held3 (fun w'=>w'.cell? ⟨w.heap.size,0,none⟩=some (.bool na)/\w'.cell? ⟨w.heap.size,1,none⟩=some (.slice A la.length c)/\w'.cell? ⟨w.heap.size+1,0,none⟩=some (.bool nb)/\w'.cell? ⟨w.heap.size+1,1,none⟩=some (.slice B lb.length d)) (exact qc w _ _ _ _ _ 178 178)
  (first
   |(go_at_call_of 315 (Value.slice A la.length c);refine(qD ha).mono ?_;rintro e w' ⟨rfl,rfl⟩)
   |(go_at_call_of 315 (Value.slice B lb.length d);refine(qD hb).mono ?_;rintro e w' ⟨rfl,rfl⟩)
   |(go_at_call 377;refine(ziP na (!nb) hi hi' hl hl' tl tl' h1 h2).mono ?_;rintro e w2 ⟨g,B1,k1,d1,rfl,hz,hs2⟩;obtain⟨q0,q1,q2,q3,q4,q5⟩:=Q8 w w2 (.cells #[.bool na,.slice A la.length c] 178) (.cells #[.bool nb,.slice B lb.length d] 178) (.bool false) (.slice none 0 0) 178))
 have Q0:=Zh q0;clear q0;go_wp2;exact bodyPost_ret (v:= .agg #[.bool g,.slice B1 k1 d1]) (by simp[results,Tryz.results354,go_sem,q1,q2]) rfl ⟨_,_,_,_,rfl,hz.boxedN HE.out (by decide) Q0.out _ _,Step.of _ _⟩
theorem IntV.zero_iff(h:IntV w neg A n c z):n=0↔z=0:=by
 obtain⟨l,rfl,h2,h3,h4,_⟩:=h;have:=zaq h2 h3;constructor
 ·intro hn;have hl:=List.eq_nil_of_length_eq_zero hn;subst hl;simp[val]at h4;omega
 ·rintro rfl;have:=this.1 (by rw[h4];rfl);subst this;rfl
theorem IntV.neg_eq(h:IntV w neg A n c z):neg=decide (z<0):=by
 obtain⟨l,_,_,_,_,h5,_⟩:=h;exact h5
theorem zeq(ha:IntV w0 na A n c x)(hb:IntV w1 nb B k d y)
  (h1:n<=1099511627776) (h2:k<=1099511627776) [hx:Ext w0 w] [hy:Ext w1 w]:
  Cq 355 #[.agg #[.bool na,.slice A n c],.agg #[.bool nb,.slice B k d]] w (zx w (x*y)):=by
 obtain⟨la,rfl,hl,tl,hv,hsx,hi,h7,h8⟩:=id ha;obtain⟨lb,rfl,hl',tl',hv',hsy,hi',h7',h8'⟩:=id hb;have HE:=Zh (show zn (na !=nb) (val la*val lb)=x*y by
  subst hsx hsy;rw[hv,hv',<-Int.natCast_mul,<-Int.natAbs_mul];unfold zn;by_cases hx:x<0<;>by_cases hy:y<0<;>simp[hx,hy]
  ·have:=Int.mul_pos_of_neg_of_neg hx hy;omega
  ·have:=Int.mul_nonpos_of_nonpos_of_nonneg (Int.le_of_lt hx) (by omega:0<=y);omega
  ·have:=Int.mul_nonpos_of_nonneg_of_nonpos (by omega:0<=x) (Int.le_of_lt hy);omega
  ·have:=Int.mul_nonneg (by omega:0<=x) (by omega:0<=y);omega)
 clear hv hv' hsx hsy;go_enter Tryz.func355,Tryz.ntmps355;go_wp2;go_region_held3 (fun w'=>w'.cell? ⟨w.heap.size,0,none⟩=some (.bool na)/\w'.cell? ⟨w.heap.size,1,none⟩=some (.slice A la.length c)/\w'.cell? ⟨w.heap.size+1,0,none⟩=some (.bool nb)/\w'.cell? ⟨w.heap.size+1,1,none⟩=some (.slice B lb.length d)) (exact qc w _ _ _ _ _ 178 178)
  (first
   |(go_at_call_of 315 (Value.slice A la.length c);refine(qD ha).mono ?_;rintro e w' ⟨rfl,rfl⟩)
   |(go_at_call_of 315 (Value.slice B lb.length d);refine(qD hb).mono ?_;rintro e w' ⟨rfl,rfl⟩)
   |(go_at_call 378;refine(ziO hi hi' hl hl' h1 h2).mono ?_;rintro e w3 ⟨B1,d1,l1,rfl,hi1,hl1,ht1,hv1,hd1,hd2,hs1⟩;have HV:=Zh hv1;clear hv1)
   |(go_at_call 352;refine(Jf (na !=nb) hi1 hl1 ht1 hd1 hd2).mono ?_;rintro e w2 ⟨g,B2,k2,d2,rfl,hz,hs2⟩;obtain⟨q0,q1,q2,q3,q4,q5⟩:=Q8 w w2 (.cells #[.bool na,.slice A la.length c] 178) (.cells #[.bool nb,.slice B lb.length d] 178) (.bool false) (.slice none 0 0) 178))
 have Q0:=Zh q0;clear q0;go_wp2;exact bodyPost_ret (v:= .agg #[.bool g,.slice B2 k2 d2]) (by simp[results,Tryz.results355,go_sem,q1,q2]) rfl ⟨_,_,_,_,rfl,hz.boxedN (by rw[HV.out];exact HE.out) (by decide) Q0.out _ _,Step.of _ _⟩
theorem ziR(ha:IntV w0 na A n c x)[hx:Ext w0 w]:
  Cq 331 #[.agg #[.bool na,.slice A n c]] w (zz w (.int .i64 (zk x 0))):=by
 have hz:=ha.zero_iff;have hn:=ha.neg_eq;by_cases h0:x=0
 ·obtain rfl:=hz.2 h0;have HE:=Zh (Qb h0);clear hz hn h0;go_enter Tryz.func331,Tryz.ntmps331;go_wp2_with (go_at_call 315;refine(qD ha).mono ?_;rintro e w' ⟨rfl,rfl⟩)
  go_ret;exact⟨by rw[HE.out];rfl,Step.of _ _⟩
 ·have hn0:((n:Int)==0)=false:=by simp;exact fun h=>h0 (hz.1 h)
  by_cases zqh:x<0
  ·have HE:=Zh (qj zqh);obtain rfl:na=true:=by simp[hn,zqh]
   clear hz hn h0 zqh;go_enter Tryz.func331,Tryz.ntmps331;go_wp2_with (go_at_call 315;refine(qD ha).mono ?_;rintro e w' ⟨rfl,rfl⟩)
   go_ret;exact⟨by rw[HE.out];rfl,Step.of _ _⟩
  ·have HE:=Zh (qC (show 0<x by omega));obtain rfl:na=false:=by simp[hn];omega
   clear hz hn h0 zqh;go_enter Tryz.func331,Tryz.ntmps331;go_wp2_with (go_at_call 315;refine(qD ha).mono ?_;rintro e w' ⟨rfl,rfl⟩)
   go_ret;exact⟨by rw[HE.out];rfl,Step.of _ _⟩
theorem zer(h:IntV w0 neg A n c z)(h2:n<=2)[hx:Ext w0 w]:
  Cq 316 #[.slice A n c] w (Zj w (.int .u64 z.natAbs)):=by
 obtain⟨l,rfl,hl,h3,h4,h5,h6,h7,h8⟩:=h;rw[<-h4];exact za7 (h6.ext hx) hl h2
theorem zes(ha:IntV w0 na A n c x)(h0:-9223372036854775808<=x)(h1:x<=9223372036854775807)[hx:Ext w0 w]:
  Cq 254 #[.agg #[.bool na,.slice A n c]] w (zz w (.tuple #[.int .i64 x,.bool true])):=by
 have hn:=ha.neg_eq;have zqf:n<=2:=ha.len (k:=2) (by omega);by_cases zqh:x<0
 ·obtain rfl:na=true:=by simp[hn,zqh]
  have hab:(x.natAbs:Int)=-x:=by omega
  have hw:=zer (w:=w.alloc (.cells #[.bool true,.slice A n c] 178)) ha zqf;rw[hab]at hw;have HW:=Zh hw;clear hn hw hab;have hle:decide (-x<=9223372036854775808)=true:=by simp;omega
  go_enter Tryz.func254,Tryz.ntmps254;go_wp2_with (first
   |(go_at_call 315;refine(qD ha).mono ?_;rintro e w' ⟨rfl,rfl⟩)
   |(go_at_call 316;refine HW.out.mono ?_;rintro e w' ⟨rfl,rfl⟩))
  go_ret2
  refine⟨?_,Step.of _ _⟩;have e1:wrap64 (IntKind.u64.wrap x)=x:=by simp only[wrap64,IntKind.wrap_u64,IntKind.wrap_i64];omega
  simp[e1]
 ·obtain rfl:na=false:=by simp[hn];omega
  have hab:(x.natAbs:Int)=x:=by omega
  have hw:=zer (w:=w.alloc (.cells #[.bool false,.slice A n c] 178)) ha zqf;rw[hab]at hw;have HW:=Zh hw;clear hn hw hab;have hx0:0<=x:=by omega
  clear zqh;go_enter Tryz.func254,Tryz.ntmps254;go_wp2_with (first
   |(go_at_call 315;refine(qD ha).mono ?_;rintro e w' ⟨rfl,rfl⟩)
   |(go_at_call 316;refine HW.out.mono ?_;rintro e w' ⟨rfl,rfl⟩))
  go_ret2
  refine⟨?_,Step.of _ _⟩;simp
theorem zcf(h:P.underlying t=some (.slice e))(a:Option Addr)(n c:Nat)(w:World):
  (binOp .eql t (.slice a n c) (.slice none 0 0)).run P w= .ok (.bool a.isNone) w:=by
 simp only[binOp];simp[Op.equal,Op.maxDepth,Lib.run_equalIn_slice_nil w 9999 t e a n c 0 0 h]
def zcg(w:World)(e:TypeId)(k:IntKind)(l:List Int)(ev:Ending)(w':World):Prop:=∃B d,ev= .returned (.slice B l.length d)/\Ints w' B e k l/\l.length<=d/\d<=9223372036854775807/\Step w w'
theorem zas{k:IntKind} :∀u∈l.map (Value.int k),u.oneCell'=true:=by
 intro u hu;obtain⟨x,_,rfl⟩:=List.mem_map.1 hu;rfl
theorem Own.empty(w:World)(e:TypeId):Own (w.alloc (.cells #[] e)) w.heap.size e 1 (some ⟨w.heap.size,0,none⟩) 0 0 []:=
 ⟨by simp,.inr ⟨w.heap.size,0,#[],rfl,Zr,heap_alloc_new w _,Zr,by simp[maxLen],by simp,by simp⟩⟩
theorem ziS(h:Ints w0 A 305 .u32 l)(hl:l.length<=1099511627776)[hx:Ext w0 w]:
  Cq 363 #[.slice A l.length c] w (zcg w 305 .u32 l):=by
 have hq:=zcf (P:=Tryz.prog) Tryz.underlying176;have h1:=h.ext hx
 cases A with
 |none=>
  have h0:l=[]:=by
   rcases Nat.eq_zero_or_pos l.length with h0|h0
   ·exact List.eq_nil_of_length_eq_zero h0
   ·obtain⟨b,o,cs,fr,hh,_⟩:=h1 (by simpa using h0)
    cases hh
  subst h0;go_enter Tryz.func363,Tryz.ntmps363;go_wp2;go_ret;exact⟨none,0,rfl,Ints.nil,by simp,by omega,Step.of _ _⟩
 |some ad=>
  go_enter Tryz.func363,Tryz.ntmps363;go_wp2_with (at_builtin;refine Zd _ rfl _ _ 176 rfl w.heap.size 305 (.int .u32 0) 1 4 Tryz.underlying176 Tryz.infoU32 rfl (by omega) (by omega) _ 0 _ [] rfl (Own.empty w _) _ l.length c (l.map (Value.int .u32)) rfl (Arr.ext h1 Zi) (by simp) zas (by omega) (by simp) ?_;intro A1 c1 w1 zqd hg)
  go_ret;have zqn:=zqd.cap;have hxx:Ext w w1:=hg.ext Zi Zr;exact⟨A1,c1,by simp,zqd.arr,by omega,by omega,hxx.toStep⟩
def NatV(w:World)(A:Option Addr)(n c:Nat)(z:Int):Prop:=∃l:List Int,n=l.length/\Ints w A 305 .u32 l/\Limbs l/\Tight l/\val l=z/\n<=c/\c<=9223372036854775807
theorem NatV.ext(h:NatV w A n c z)(hx:Ext w w'):NatV w' A n c z:=by
 obtain⟨l,h1,h2,h3⟩:=h;exact⟨l,h1,h2.ext hx,h3⟩
theorem NatV.nil(w:World):NatV w none 0 0 0:=⟨[],rfl,Ints.nil,Limbs.nil,Tight.nil,rfl,Zr,by omega⟩
theorem NatV.zero_iff(h:NatV w A n c z):n=0↔z=0:=by
 obtain⟨l,rfl,_,h2,h3,h4,_⟩:=h;have:=zaq h2 h3;constructor
 ·intro hn;have hl:=List.eq_nil_of_length_eq_zero hn;subst hl;simpa[val] using h4.symm
 ·rintro rfl;have:=this.1 h4;subst this;rfl
theorem NatV.nonneg(h:NatV w A n c z):0<=z:=by
 obtain⟨l,rfl,_,h2,h3,h4,_⟩:=h;rw[<-h4];exact qP h2
theorem NatV.len(h:NatV w A n c z)(hz:z<(4294967296:Int)^k):n<=k:=by
 obtain⟨l,rfl,_,h2,h3,h4,_⟩:=h;exact za6 h2 h3 (by rw[h4];exact hz)
theorem NatV.of_ret{e:Ending}(h:Qa w z e w'):∃B n d,e= .returned (.slice B n d)/\NatV w' B n d z/\Step w w':=by
 obtain⟨B,d,l,rfl,h1,h2,h3,h4,h5,h6,h7⟩:=h;exact⟨B,l.length,d,rfl,⟨l,rfl,h1,h2,h3,h4,h5,h6⟩,h7⟩
theorem IntV.nat(h:IntV w neg A n c z):NatV w A n c z.natAbs:=by
 obtain⟨l,h1,h2,h3,h4,h5,h6,h7,h8⟩:=h;exact⟨l,h1,h6,h2,h3,h4,h7,h8⟩
theorem Jh(neg:Bool)(h:NatV w0 A n c z)[hx:Ext w0 w]:
  Cq 352 #[.bool neg,.slice A n c] w (zx w (zn neg z)):=by
 obtain⟨l,rfl,h1,h2,h3,rfl,h5,h6⟩:=h;exact Jf neg h1 h2 h3 h5 h6
theorem zet(ha:NatV w0 A n c x)(hb:NatV w1 B k d y)[hx:Ext w0 w][hy:Ext w1 w]:
  Cq 389 #[.slice A n c,.slice B k d] w (zz w (.int .i64 (zk x y))):=by
 obtain⟨l,rfl,h1,h2,h3,rfl,h5,h6⟩:=ha;obtain⟨m,rfl,g1,g2,g3,rfl,g5,g6⟩:=hb;exact zcb h1 g1 h2 g2 h3 g3 (by omega) (by omega)
theorem ziT(ha:NatV w0 A n c x)(hb:NatV w1 B k d y)(h1:n<=1099511627776)(h2:k<=1099511627776)[hx:Ext w0 w][hy:Ext w1 w]:
  Cq 380 #[.slice A n c,.slice B k d] w (Qa w (x+y)):=by
 obtain⟨l,rfl,a1,a2,a3,rfl,a5,a6⟩:=ha;obtain⟨m,rfl,g1,g2,g3,rfl,g5,g6⟩:=hb;exact zen a1 g1 a2 g2 h1 h2
theorem ziU(ha:NatV w0 A n c x)(hb:NatV w1 B k d y)(h1:n<=1099511627776)(h2:y<=x)[hx:Ext w0 w][hy:Ext w1 w]:
  Cq 381 #[.slice A n c,.slice B k d] w (Qa w (x-y)):=by
 obtain⟨l,rfl,a1,a2,a3,rfl,a5,a6⟩:=ha;obtain⟨m,rfl,g1,g2,g3,rfl,g5,g6⟩:=hb;refine zcd a1 g1 a2 g2 h1 ?_ h2;rcases Zl l.length m.length with h|h
 ·have:=jP a2 g2 g3 h;omega
 ·exact h
theorem zeu(h:NatV w0 A n c z)(h2:n<=2)[hx:Ext w0 w]:
  Cq 316 #[.slice A n c] w (Zj w (.int .u64 z)):=by
 obtain⟨l,rfl,a1,a2,a3,rfl,a5,a6⟩:=h;exact za7 (a1.ext hx) a2 h2
theorem zev(h:NatV w0 A n c z)(h2:n<=1099511627776)[hx:Ext w0 w]:
  Cq 363 #[.slice A n c] w (Qa w z):=by
 obtain⟨l,rfl,a1,a2,a3,rfl,a5,a6⟩:=h;refine(ziS (c:=c) a1 h2).mono ?_;rintro e w' ⟨B,d,rfl,h1,h3,h4,h5⟩;exact⟨B,d,l,rfl,h1,a2,a3,rfl,h3,h4,h5⟩
def ziV(w:World)(q r:Int)(e:Ending)(w':World):Prop:=∃B n d B' n' d',e= .returned (.tuple #[.slice B n d,.slice B' n' d'])/\NatV w' B n d q/\NatV w' B' n' d' r/\Step w w'
theorem ziW(ha:NatV w0 A n c x)(hb:NatV w1 B k d y)(h1:x<18446744073709551616)(hy0:0<y)(hy1:y<18446744073709551616)[hx:Ext w0 w][hy:Ext w1 w]:
  Cq 379 #[.slice A n c,.slice B k d] w (ziV w (x / y) (x%y)):=by
 have hn2:n<=2:=ha.len (k:=2) (by omega);have hk2:k<=2:=hb.len (k:=2) (by omega);have hx0:=ha.nonneg;by_cases hlt:x<y
 ·have hc:=qj hlt;have HQ:=Zh (show x / y=0 from Int.ediv_eq_zero_of_lt hx0 hlt);have HR:=Zh (show x%y=x from Int.emod_eq_of_lt hx0 hlt);go_enter Tryz.func379,Tryz.ntmps379;go_wp2_with fail
  refine(zet ha hb).mono ?_;rintro e w2 ⟨rfl,hs2⟩;go_wp2_with fail
  refine(zev ha (by omega)).mono ?_;intro e w3 hr;obtain⟨B3,n3,d3,rfl,hn3,hs3⟩:=NatV.of_ret hr;go_wp2;go_ret2
  exact⟨_,_,_,_,_,_,rfl,by rw[HQ.out];exact NatV.nil _,by rw[HR.out];exact hn3,Step.of _ _⟩
 ·have hc:0<=zk x y:=by unfold zk;split;omega;split<;>decide
  have hq0:0<=x / y:=Int.ediv_nonneg hx0 (by omega);have hq1:x / y<=x:=Int.ediv_le_self y hx0;have hr0:0<=x%y:=Int.emod_nonneg x (by omega);have hr1:x%y<y:=Int.emod_lt_of_pos x hy0;have hyb:(y==0)=false:=by simp;omega
  go_enter Tryz.func379,Tryz.ntmps379;go_wp2_with fail
  refine(zet ha hb).mono ?_;rintro e w2 ⟨rfl,hs2⟩;go_wp2_with fail
  refine(zeu ha hn2).mono ?_;rintro e w3 ⟨rfl,rfl⟩;go_wp2_with fail
  refine(zeu hb hk2).mono ?_;rintro e w3 ⟨rfl,rfl⟩;go_wp2_with fail
  have hyn:¬y=0:=by omega
  have e1:x.tdiv y=x / y:=Int.tdiv_eq_ediv_of_nonneg hx0;have e2:x.tmod y=x%y:=Int.tmod_eq_emod_of_nonneg hx0;have e3:IntKind.u64.wrap (x / y)=x / y:=by rw[IntKind.wrap_u64];omega
  have e4:IntKind.u64.wrap (x%y)=x%y:=by rw[IntKind.wrap_u64];omega
  go_region_held3 (fun _=>True) (trivial)
   (first
    |(go_at_call_of 353 (Value.int IntKind.u64 (x / y));refine(zar (x / y) hq0 (by omega) _).mono ?_;intro e w4 hr;obtain⟨B4,n4,d4,rfl,hn4,hs4⟩:=NatV.of_ret hr;clear hr)
    |(go_at_call_of 353 (Value.int IntKind.u64 (x%y));refine(zar (x%y) hr0 (by omega) _).mono ?_;intro e w5 hr;obtain⟨B5,n5,d5,rfl,hn5,hs5⟩:=NatV.of_ret hr;clear hr))
  go_wp2;go_ret2
  exact⟨_,_,_,_,_,_,rfl,hn4.ext Zi,hn5,Step.of _ _⟩
def zch(w:World)(q r:Int)(b:Bool)(e:Ending)(w':World):Prop:=∃g B n d g' B' n' d',e= .returned (.tuple #[.agg #[.bool g,.slice B n d],.agg #[.bool g',.slice B' n' d'],.bool b])/\IntV w' g B n d q/\IntV w' g' B' n' d' r/\Step w w'
theorem QK(w w':World)(x0 y0 x1 y1 x2 y2 x3 y3:Value)(T:TypeId)[h:Ext ((((w.alloc (.cells #[x0,y0] T)).alloc (.cells #[x1,y1] T)).alloc (.cells #[x2,y2] T)).alloc (.cells #[x3,y3] T)) w']:
  (w'.cell? ⟨w.heap.size,0,none⟩=some x0/\w'.cell? ⟨w.heap.size,1,none⟩=some y0/\w'.cell? ⟨w.heap.size+1,0,none⟩=some x1/\w'.cell? ⟨w.heap.size+1,1,none⟩=some y1)/\
  (w'.heap[w.heap.size+1+1]? =some (.cells #[x2,y2] T (0,0))/\w'.cell? ⟨w.heap.size+1+1,0,none⟩=some x2/\w'.cell? ⟨w.heap.size+1+1,1,none⟩=some y2/\w'.frozen? ⟨w.heap.size+1+1,0,none⟩=false/\w'.frozen? ⟨w.heap.size+1+1,1,none⟩=false/\w.heap.size+1+1<w'.heap.size)/\
  (w'.heap[w.heap.size+1+1+1]? =some (.cells #[x3,y3] T (0,0))/\w'.cell? ⟨w.heap.size+1+1+1,0,none⟩=some x3/\w'.cell? ⟨w.heap.size+1+1+1,1,none⟩=some y3/\w'.frozen? ⟨w.heap.size+1+1+1,0,none⟩=false/\w'.frozen? ⟨w.heap.size+1+1+1,1,none⟩=false/\w.heap.size+1+1+1<w'.heap.size):=by
 have h2:Ext ((w.alloc (.cells #[x0,y0] T)).alloc (.cells #[x1,y1] T)) w':=Ext.trans Zi h;have h3:Ext (((w.alloc (.cells #[x0,y0] T)).alloc (.cells #[x1,y1] T)).alloc (.cells #[x2,y2] T)) w':=Ext.trans Zi h;exact⟨qc w w' x0 y0 x1 y1 T T,Q8 w w' (.cells #[x0,y0] T) (.cells #[x1,y1] T) x2 y2 T,jO (((w.alloc (.cells #[x0,y0] T)).alloc (.cells #[x1,y1] T)).alloc (.cells #[x2,y2] T)) w' _ x3 y3 T (by simp)⟩
theorem ZW{o:Obj}(h:w.heap[s]? =some o)(hp:s≠p.block)(u:Value):(w.setCell p u).heap[s]? =some o:=(Below.heap_setCell w p u s hp).trans h
theorem IntV.boxed4{g:Bool}(hz:IntV w g B k d z){s':Nat}(hss:s≠s'){T':TypeId}(hT:305≠T)(hT':305≠T')(q:w.heap[s]? =some (.cells cs T (0,0)))(q':w.heap[s']? =some (.cells cs' T' (0,0)))(u v u' v':Value):
  IntV ((((w.setCell ⟨s,0,none⟩ u).setCell ⟨s,1,none⟩ v).setCell ⟨s',0,none⟩ u').setCell ⟨s',1,none⟩ v') g B k d z:=
 (hz.boxed hT q u v).boxed hT' (ZW (ZW q' (fun h=>hss h.symm) _) (fun h=>hss h.symm) _) u' v'
theorem zew(x y:Int)(hx:0<=x)(hy:y≠0):zn (decide (y<0)) ((x.natAbs:Int) / y.natAbs)=x / y/\(x.natAbs:Int)%y.natAbs=x%y:=by
 have e1:(x.natAbs:Int)=x:=by omega
 rw[e1];rcases(by omega:(y.natAbs:Int)=y∨(y.natAbs:Int)=-y) with h|h
 ·have:¬y<0:=by omega
  rw[h];simp[zn,this]
 ·have:y<0:=by omega
  rw[h];simp[zn,this,Int.ediv_neg,Int.emod_neg]
theorem zex(x y:Int)(hx:x<0)(hy:y≠0)(hr:(x.natAbs:Int)%y.natAbs=0):zn (!decide (y<0)) ((x.natAbs:Int) / y.natAbs)=x / y/\(x.natAbs:Int)%y.natAbs=x%y:=by
 have e1:(x.natAbs:Int)=-x:=by omega
 have hd:(y.natAbs:Int)∣x:=by
  have:=Int.dvd_of_emod_eq_zero hr;rw[e1]at this;exact(Int.dvd_neg).1 this
 rw[hr,e1];rcases(by omega:(y.natAbs:Int)=y∨(y.natAbs:Int)=-y) with h|h
 ·have:¬y<0:=by omega
  rw[h]at hd|-;simp[zn,this,Int.neg_ediv_of_dvd hd,Int.emod_eq_zero_of_dvd hd]
 ·have:y<0:=by omega
  rw[h]at hd|-
  have hd':y∣x:=(Int.neg_dvd).1 hd;simp[zn,this,Int.ediv_neg,Int.neg_ediv_of_dvd hd',Int.emod_eq_zero_of_dvd hd']
theorem zey(x y:Int)(hx:x<0)(hy:y≠0)(hr:(x.natAbs:Int)%y.natAbs≠0):zn (!decide (y<0)) ((x.natAbs:Int) / y.natAbs+1)=x / y/\(y.natAbs:Int)-(x.natAbs:Int)%y.natAbs=x%y:=by
 have hY:0<(y.natAbs:Int):=by omega
 generalize hYY:(y.natAbs:Int)=Y at*
 have e1:(x.natAbs:Int)=-x:=by omega
 rw[e1]at hr|-
 have h1:=Int.emod_nonneg (-x) (show Y≠0 by omega);have h2:=Int.emod_lt_of_pos (-x) hY;have h3:Y*(-x / Y)+-x%Y=-x:=Int.mul_ediv_add_emod (-x) Y;have hq:x / Y=-(-x / Y+1)/\x%Y=Y- -x%Y:=by
  have h4:x=(Y- -x%Y)+Y*(-(-x / Y+1)):=by
   rw[Int.mul_neg,Int.mul_add,Int.mul_one];omega
  constructor
  ·conv=>lhs;rw[h4]
   rw[Int.add_mul_ediv_left _ _ (by omega),Int.ediv_eq_zero_of_lt (by omega) (by omega)];omega
  ·conv=>lhs;rw[h4]
   rw[Int.add_mul_emod_self_left,Int.emod_eq_of_lt (by omega) (by omega)]
 rcases(by omega:Y=y∨Y=-y) with h|h
 ·have:¬y<0:=by omega
  rw[<-h];rw[hq.1,hq.2];simp[zn];omega
 ·have hy':y<0:=by omega
  have:y=-Y:=by omega
  rw[this,Int.ediv_neg,Int.emod_neg,hq.1,hq.2];simp[zn];omega
theorem ziX(w:World):NatV (w.alloc (.cells #[.int .u32 1] 305)) (some ⟨w.heap.size,0,none⟩) 1 1 1:=
 ⟨[1],rfl,Arr.new w 305 #[.int .u32 1],Limbs.cons (by omega) Limbs.nil,by simp[Tight],by simp[val],Zr,by omega⟩
theorem ziY(ha:IntV w0 na A n c x)(hb:IntV w1 nb B k d y)
  (h1:x.natAbs<18446744073709551616) (hy0:y≠0) (h2:y.natAbs<18446744073709551616) [hx:Ext w0 w] [hy:Ext w1 w]:
  Cq 356 #[.agg #[.bool na,.slice A n c],.agg #[.bool nb,.slice B k d]] w (zch w (x / y) (x%y) true):=by
 have hn2:n<=2:=ha.len (k:=2) (by omega);have hk2:k<=2:=hb.len (k:=2) (by omega);have hk0:((k:Int)==0)=false:=by simp;exact fun h=>hy0 (hb.zero_iff.1 h)
 have hna:=ha.neg_eq;have hnb:=hb.neg_eq;have hdn:=ziW (w:=(((w.alloc (.cells #[.bool na,.slice A n c] 178)).alloc (.cells #[.bool nb,.slice B k d] 178)).alloc (.cells #[.bool false,.slice none 0 0] 178)).alloc (.cells #[.bool false,.slice none 0 0] 178)) ha.nat hb.nat (by omega) (by omega) (by omega);have hr0:=Int.emod_nonneg (x.natAbs:Int) (show (y.natAbs:Int)≠0 by omega);have hr1:=Int.emod_lt_of_pos (x.natAbs:Int) (show 0<(y.natAbs:Int) by omega)
 have hq0:0<=(x.natAbs:Int) / y.natAbs:=Int.ediv_nonneg (by omega) (by omega);have hq1:(x.natAbs:Int) / y.natAbs<=x.natAbs:=Int.ediv_le_self _ (by omega);by_cases zqh:x<0
 ·obtain rfl:na=true:=by simp[hna,zqh]
  by_cases hrz:(x.natAbs:Int)%y.natAbs=0
  ·have HE:=Zh (zex x y zqh hy0 hrz);rw[<-hnb]at HE;have HR:=Zh hrz;generalize (x.natAbs:Int) / y.natAbs=q at*
   generalize (x.natAbs:Int)%y.natAbs=r at*
   have HD:=Zh hdn;clear hna hnb hdn hrz;go_enter Tryz.func356,Tryz.ntmps356;go_wp2_with fail
   refine(qD hb).mono ?_;rintro e w' ⟨rfl,rfl⟩;go_wp2_with fail
   refine(qD ha).mono ?_;rintro e w' ⟨rfl,rfl⟩;go_wp2_with fail
   refine HD.out.mono ?_;rintro e w2 ⟨B2,n2,d2,B3,n3,d3,rfl,hq,hr,hs2⟩;obtain⟨⟨c1,c2,c3,c4⟩,-,-⟩:=QK w w2 (.bool true) (.slice A n c) (.bool nb) (.slice B k d) (.bool false) (.slice none 0 0) (.bool false) (.slice none 0 0) 178;have hn3:n3=0:=hr.zero_iff.2 HR.out;subst hn3;go_wp2_with fail
   refine(Jh _ hq).mono ?_;rintro e w4 ⟨g4,B4,n4,d4,rfl,hz4,hs4⟩;go_wp2_with fail
   refine(Jh _ hr).mono ?_;rintro e w5 ⟨g5,B5,n5,d5,rfl,hz5,hs5⟩;obtain⟨-,⟨p0,p1,p2,p3,p4,p5⟩,⟨q0,q1,q2,q3,q4,q5⟩⟩:=QK w w5 (.bool true) (.slice A n c) (.bool nb) (.slice B k d) (.bool false) (.slice none 0 0) (.bool false) (.slice none 0 0) 178;have P0:=Zh p0;have Q0:=Zh q0;clear p0 q0;go_wp2;refine bodyPost_ret (v:= .tuple #[.agg #[.bool g4,.slice B4 n4 d4],.agg #[.bool g5,.slice B5 n5 d5],.bool true]) (by simp[results,Tryz.results356,go_sem,p1,p2,q1,q2]) rfl ⟨_,_,_,_,_,_,_,_,rfl,?_,?_,Step.of _ _⟩
   ·rw[<-HE.out.1];exact(hz4.ext hs5.ext).boxed4 (by omega) (by decide) (by decide) P0.out Q0.out _ _ _ _
   ·rw[<-HE.out.2];exact hz5.boxed4 (by omega) (by decide) (by decide) P0.out Q0.out _ _ _ _
  ·have HE:=Zh (zey x y zqh hy0 hrz);rw[<-hnb]at HE;have HR:=Zh hrz;generalize (x.natAbs:Int) / y.natAbs=q at*
   generalize (x.natAbs:Int)%y.natAbs=r at*
   have HD:=Zh hdn;clear hna hnb hdn hrz;go_enter Tryz.func356,Tryz.ntmps356;go_wp2_with fail
   refine(qD hb).mono ?_;rintro e w' ⟨rfl,rfl⟩;go_wp2_with fail
   refine(qD ha).mono ?_;rintro e w' ⟨rfl,rfl⟩;go_wp2_with fail
   refine HD.out.mono ?_;rintro e w2 ⟨B2,n2,d2,B3,n3,d3,rfl,hq,hr,hs2⟩;obtain⟨⟨c1,c2,c3,c4⟩,-,-⟩:=QK w w2 (.bool true) (.slice A n c) (.bool nb) (.slice B k d) (.bool false) (.slice none 0 0) (.bool false) (.slice none 0 0) 178;have hn3:0<n3:=Nat.pos_of_ne_zero fun h=>HR.out (hr.zero_iff.1 h)
   have zvq:n2<=2:=hq.len (k:=2) (by omega);have zvr:decide ((0:Int)<(n3:Int))=true:=by simpa using hn3
   go_wp2_with fail
   refine(ziT hq (ziX w2) (by omega) (by omega)).mono ?_;intro e w6 hr6;obtain⟨B6,n6,d6,rfl,hn6,hs6⟩:=NatV.of_ret hr6;clear hr6;go_wp2_with fail
   refine(ziU hb.nat hr (by omega) (by omega)).mono ?_;intro e w7 hr7;obtain⟨B7,n7,d7,rfl,hn7,hs7⟩:=NatV.of_ret hr7;clear hr7;go_wp2_with fail
   refine(Jh _ hn6).mono ?_;rintro e w4 ⟨g4,B4,n4,d4,rfl,hz4,hs4⟩;go_wp2_with fail
   refine(Jh _ hn7).mono ?_;rintro e w5 ⟨g5,B5,n5,d5,rfl,hz5,hs5⟩;obtain⟨-,⟨p0,p1,p2,p3,p4,p5⟩,⟨q0,q1,q2,q3,q4,q5⟩⟩:=QK w w5 (.bool true) (.slice A n c) (.bool nb) (.slice B k d) (.bool false) (.slice none 0 0) (.bool false) (.slice none 0 0) 178;have P0:=Zh p0;have Q0:=Zh q0;clear p0 q0;go_wp2;refine bodyPost_ret (v:= .tuple #[.agg #[.bool g4,.slice B4 n4 d4],.agg #[.bool g5,.slice B5 n5 d5],.bool true]) (by simp[results,Tryz.results356,go_sem,p1,p2,q1,q2]) rfl ⟨_,_,_,_,_,_,_,_,rfl,?_,?_,Step.of _ _⟩
   ·rw[<-HE.out.1];exact(hz4.ext hs5.ext).boxed4 (by omega) (by decide) (by decide) P0.out Q0.out _ _ _ _
   ·rw[<-HE.out.2];exact hz5.boxed4 (by omega) (by decide) (by decide) P0.out Q0.out _ _ _ _
 ·obtain rfl:na=false:=by simp[hna];omega
  ·have HE:=Zh (zew x y (by omega) hy0);rw[<-hnb]at HE;generalize (x.natAbs:Int) / y.natAbs=q at*
   generalize (x.natAbs:Int)%y.natAbs=r at*
   have HD:=Zh hdn;clear hna hnb hdn;go_enter Tryz.func356,Tryz.ntmps356;go_wp2_with fail
   refine(qD hb).mono ?_;rintro e w' ⟨rfl,rfl⟩;go_wp2_with fail
   refine(qD ha).mono ?_;rintro e w' ⟨rfl,rfl⟩;go_wp2_with fail
   refine HD.out.mono ?_;rintro e w2 ⟨B2,n2,d2,B3,n3,d3,rfl,hq,hr,hs2⟩;obtain⟨⟨c1,c2,c3,c4⟩,-,-⟩:=QK w w2 (.bool false) (.slice A n c) (.bool nb) (.slice B k d) (.bool false) (.slice none 0 0) (.bool false) (.slice none 0 0) 178;go_wp2_with fail
   refine(Jh _ hq).mono ?_;rintro e w4 ⟨g4,B4,n4,d4,rfl,hz4,hs4⟩;go_wp2_with fail
   refine(Jh _ hr).mono ?_;rintro e w5 ⟨g5,B5,n5,d5,rfl,hz5,hs5⟩;obtain⟨-,⟨p0,p1,p2,p3,p4,p5⟩,⟨q0,q1,q2,q3,q4,q5⟩⟩:=QK w w5 (.bool false) (.slice A n c) (.bool nb) (.slice B k d) (.bool false) (.slice none 0 0) (.bool false) (.slice none 0 0) 178;have P0:=Zh p0;have Q0:=Zh q0;clear p0 q0;go_wp2;refine bodyPost_ret (v:= .tuple #[.agg #[.bool g4,.slice B4 n4 d4],.agg #[.bool g5,.slice B5 n5 d5],.bool true]) (by simp[results,Tryz.results356,go_sem,p1,p2,q1,q2]) rfl ⟨_,_,_,_,_,_,_,_,rfl,?_,?_,Step.of _ _⟩
   ·rw[<-HE.out.1];exact(hz4.ext hs5.ext).boxed4 (by omega) (by decide) (by decide) P0.out Q0.out _ _ _ _
   ·rw[<-HE.out.2];exact hz5.boxed4 (by omega) (by decide) (by decide) P0.out Q0.out _ _ _ _
theorem Q9:(Tryz.prog.info? 178).map (fun i=>(i.zero,i.size,i.bytes))=some (some (.agg #[.bool false,.slice none 0 0]),2,32):=by kernel_rfl
theorem zat:(Tryz.prog.info? 126).map (fun i=>(i.zero,i.size,i.bytes))=some (some (.slice none 0 0),1,24):=by kernel_rfl
theorem zci:(Tryz.prog.info? 91).map (fun i=>(i.zero,i.size,i.bytes))=some (some (.slice none 0 0),1,24):=by kernel_rfl
theorem qF:(Tryz.prog.info? 2).map (fun i=>(i.zero,i.size,i.bytes))=some (some (.int .i64 0),1,8):=by kernel_rfl
theorem jA:(Tryz.prog.info? 3).map (fun i=>(i.zero,i.size,i.bytes))=some (some (.int .i64 0),1,8):=by kernel_rfl
theorem qQ:(Tryz.prog.info? 31).map (fun i=>(i.zero,i.size,i.bytes))=some (some (.slice none 0 0),1,24):=by kernel_rfl
def VRow(w:World)(g:Nat)(e:TypeId)(vs:List Value):Prop:=w.heap[g]? =some (.cells vs.toArray e (0,0))
section
variable {w w':World} {g:Nat} {e:TypeId} {vs:List Value}
theorem VRow.lt(h:VRow w g e vs):g<w.heap.size:=zw h
theorem VRow.cell(h:VRow w g e vs){u:Value}(hu:vs[i]? =some u):w.cell? ⟨g,i,none⟩=some u:=by
 rw[cell_of_row w g i _ e (0,0) h];simpa using hu
theorem VRow.frozen(h:VRow w g e vs)(i:Nat):w.frozen? ⟨g,i,none⟩=false:=by
 unfold VRow at h;simp[World.frozen?,h]
theorem VRow.set(h:VRow w g e vs)(i:Nat)(u:Value):VRow (w.setCell ⟨g,i,none⟩ u) g e (vs.set i u):=by
 unfold VRow at h|-
 rw[zed h];simp
theorem VRow.ext(h:VRow w g e vs)(hx:Ext w w'):VRow w' g e vs:=zh hx h
theorem VRow.far(h:VRow w g e vs)(hp:g≠p.block)(u:Value):VRow (w.setCell p u) g e vs:=(Below.heap_setCell w p u g hp).trans h
theorem VRow.new(w:World)(e:TypeId)(cs:Array Value):VRow (w.alloc (.cells cs e)) w.heap.size e cs.toList:=heap_alloc_new w _
theorem VRow.arr(h:VRow w g e vs):Arr w (some ⟨g,0,none⟩) e vs:=fun _=>⟨g,0,_,_,rfl,h,fun j u hu=>by simpa using hu⟩
end
def zR(z:Array Value)(n:Nat):Array Value:=madeCells z n
theorem ZX{z:Value}{size by_:Nat}(ht:P.underlying t=some (.slice e))(hi:(P.info? e).map (fun i=>(i.zero,i.size,i.bytes))=some (some z,size,by_))(h8:by_<=128)
  (n:Int) (h0:0<=n) (h1:n<=1099511627776) (w:World):
  (Instr.makeSlice t (.int .i64 n) (.int .i64 n)).run P w= .ok (.slice (some ⟨w.heap.size,0,none⟩) n.toNat n.toNat) (w.alloc (.cells (zR z.cells (n.toNat*size)) e)):=by
 obtain⟨i,hi1,hz,hs,hb⟩:=info_parts hi;have hb':(i.bytes:Int)*n<=128*n:=Int.mul_le_mul_of_nonneg_right (by omega) h0;rw[run_make (P:=P) w t e i z ht hi1 hz .i64 .i64 n n h0 (Int.le_refl _) (by omega) (by omega),hs];rfl
theorem JO(z:Array Value)(n:Nat):(zR z n).toList.length=n:=by simp[zR,size_madeCells]
theorem ja(z:Value)(n:Nat):(zR #[z] n).toList=List.replicate n z:=toList_madeCells_one z n
theorem zbb(z:Array Value)(n i:Nat)(hi:i<n)(hz:0<z.size):(zR z n).toList[i]? =some (z[i%z.size]'(Nat.mod_lt _ hz)):=by
 simp[zR,madeCells,hi,Nat.mod_lt _ hz]
def ql(f:FuncId):Prop:=∀(args:Array Value)(w:World),(callFunc f args).run Tryz.prog w= .ok (.enter f args) w
theorem Ji {f : FuncId} {fn : Func} (hf : Tryz.prog.funcs[f]? = some fn) (zt2 : (fn.name == "runtime.NumGoroutine") = false) (hb : fn.body.isNone = false) : ql f := fun args w => by
 have h1 : fn.name ≠ "runtime.NumGoroutine" := by simpa using zt2
 have h2:¬fn.body=none:=by intro h;rw[h]at hb;simp at hb
 simp[callFunc,hf,h1,h2]
def IntsV(w:World)(A:Option Addr)(zs:List Int):Prop:=
 ∃vs:List Value,vs.length=zs.length*2/\Arr w A 178 vs/\∀(i:Nat)(z:Int),zs[i]? =some z->∃g B n c,vs[i*2]? =some (.bool g)/\vs[i*2+1]? =some (.slice B n c)/\IntV w g B n c z
theorem IntsV.ext(h:IntsV w A zs)(hx:Ext w w'):IntsV w' A zs:=by
 obtain⟨vs,h1,h2,h3⟩:=h;refine⟨vs,h1,h2.ext hx,fun i z hz=>?_⟩;obtain⟨g,B,n,c,a1,a2,a3⟩:=h3 i z hz;exact⟨g,B,n,c,a1,a2,a3.ext hx⟩
theorem IntsV.grow(h:IntsV w A zs)(hg:Grow ze e w w')(h1:178≠e)(h2:305≠e):IntsV w' A zs:=by
 obtain⟨vs,a1,a2,a3⟩:=h;refine⟨vs,a1,a2.grow hg h1,fun i z hz=>?_⟩;obtain⟨g,B,n,c,b1,b2,b3⟩:=a3 i z hz;exact⟨g,B,n,c,b1,b2,b3.grow hg h2⟩
theorem IntsV.at_(h:IntsV w A zs)(hi:i<zs.length):
  ∃b o g B n c,A=some ⟨b,o,none⟩/\w.cell? ⟨b,o+i*2,none⟩=some (.bool g)/\w.cell? ⟨b,o+i*2+1,none⟩=some (.slice B n c)/\IntV w g B n c zs[i]/\b<w.heap.size:=by
 obtain⟨vs,a1,a2,a3⟩:=h;obtain⟨g,B,n,c,b1,b2,b3⟩:=a3 i zs[i] (by simp[hi]);obtain⟨b,o,rfl,c1,c2⟩:=a2.at_ b1;obtain⟨b',o',hh,d1,d2⟩:=a2.at_ b2;injection hh with hh
 injection hh with h1 h2
 subst h1 h2;exact⟨b,o,g,B,n,c,rfl,c1,by rw[Nat.add_assoc];exact d1,b3,c2⟩
theorem IntsV.nil(w:World)(A:Option Addr):IntsV w A []:=⟨[],rfl,Arr.nil,fun i z hz=>by simp at hz⟩
def MatV(w:World)(A:Option Addr)(m:List (List Int)):Prop:=
 ∃vs:List Value,vs.length=m.length/\Arr w A 126 vs/\∀(i:Nat)(r:List Int),m[i]? =some r->∃B c,vs[i]? =some (.slice B r.length c)/\IntsV w B r/\r.length<=c/\c<=9223372036854775807
theorem MatV.ext(h:MatV w A m)(hx:Ext w w'):MatV w' A m:=by
 obtain⟨vs,h1,h2,h3⟩:=h;refine⟨vs,h1,h2.ext hx,fun i z hz=>?_⟩;obtain⟨B,c,a1,a2,a3⟩:=h3 i z hz;exact⟨B,c,a1,a2.ext hx,a3⟩
theorem MatV.grow(h:MatV w A m)(hg:Grow ze e w w')(h0:126≠e)(h1:178≠e)(h2:305≠e):MatV w' A m:=by
 obtain⟨vs,a1,a2,a3⟩:=h;refine⟨vs,a1,a2.grow hg h0,fun i z hz=>?_⟩;obtain⟨B,c,b1,b2,b3⟩:=a3 i z hz;exact⟨B,c,b1,b2.grow hg h1 h2,b3⟩
theorem MatV.at_(h:MatV w A m)(hi:m[i]? =some r):
  ∃b o B c,A=some ⟨b,o,none⟩/\w.cell? ⟨b,o+i,none⟩=some (.slice B r.length c)/\IntsV w B r/\r.length<=c/\c<=9223372036854775807/\b<w.heap.size:=by
 obtain⟨vs,a1,a2,a3⟩:=h;obtain⟨B,c,b1,b2,b3,b4⟩:=a3 i r hi;obtain⟨b,o,hA,hc,hb⟩:=a2.at_ b1;exact⟨b,o,B,c,hA,hc,b2,b3,b4,hb⟩
def Mat64(w:World)(A:Option Addr)(m:List (List Int)):Prop:=
 ∃vs:List Value,vs.length=m.length/\Arr w A 31 vs/\∀(i:Nat)(r:List Int),m[i]? =some r->∃B c,vs[i]? =some (.slice B r.length c)/\Ints w B 2 .i64 r/\r.length<=c/\c<=9223372036854775807
theorem Mat64.ext(h:Mat64 w A m)(hx:Ext w w'):Mat64 w' A m:=by
 obtain⟨vs,h1,h2,h3⟩:=h;refine⟨vs,h1,h2.ext hx,fun i z hz=>?_⟩;obtain⟨B,c,a1,a2,a3⟩:=h3 i z hz;exact⟨B,c,a1,a2.ext hx,a3⟩
theorem Mat64.at_(h:Mat64 w A m)(hi:m[i]? =some r):
  ∃b o B c,A=some ⟨b,o,none⟩/\w.cell? ⟨b,o+i,none⟩=some (.slice B r.length c)/\Ints w B 2 .i64 r/\r.length<=c/\c<=9223372036854775807/\b<w.heap.size:=by
 obtain⟨vs,a1,a2,a3⟩:=h;obtain⟨B,c,b1,b2,b3,b4⟩:=a3 i r hi;obtain⟨b,o,hA,hc,hb⟩:=a2.at_ b1;exact⟨b,o,B,c,hA,hc,b2,b3,b4,hb⟩
def IntsA(w:World)(A:Option Addr)(l:List Int):Prop:=∃te,Ints w A te .i64 l
theorem IntsA.ext(h:IntsA w A l)(hx:Ext w w'):IntsA w' A l:=by
 obtain⟨te,h⟩:=h;exact⟨te,h.ext hx⟩
theorem IntsA.at_(h:IntsA w A l)(hi:i<l.length):∃b o x,A=some ⟨b,o,none⟩/\l[i]? =some x/\w.cell? ⟨b,o+i,none⟩=some (.int .i64 x)/\b<w.heap.size:=by
 obtain⟨te,h⟩:=h;exact h.at_ hi
def MatA(w:World)(A:Option Addr)(m:List (List Int)):Prop:=
 ∃(te:TypeId) (vs:List Value),vs.length=m.length/\Arr w A te vs/\∀(i:Nat)(r:List Int),m[i]? =some r->∃B c,vs[i]? =some (.slice B r.length c)/\IntsA w B r/\r.length<=c/\c<=9223372036854775807
theorem Mat64.a(h:Mat64 w A m):MatA w A m:=by
 obtain⟨vs,h1,h2,h3⟩:=h;refine⟨_,vs,h1,h2,fun i z hz=>?_⟩;obtain⟨B,c,a1,a2,a3⟩:=h3 i z hz;exact⟨B,c,a1,⟨_,a2⟩,a3⟩
theorem MatA.ext(h:MatA w A m)(hx:Ext w w'):MatA w' A m:=by
 obtain⟨te,vs,h1,h2,h3⟩:=h;refine⟨te,vs,h1,h2.ext hx,fun i z hz=>?_⟩;obtain⟨B,c,a1,a2,a3⟩:=h3 i z hz;exact⟨B,c,a1,a2.ext hx,a3⟩
theorem MatA.at_(h:MatA w A m)(hi:m[i]? =some r):
  ∃b o B c,A=some ⟨b,o,none⟩/\w.cell? ⟨b,o+i,none⟩=some (.slice B r.length c)/\IntsA w B r/\r.length<=c/\c<=9223372036854775807/\b<w.heap.size:=by
 obtain⟨te,vs,a1,a2,a3⟩:=h;obtain⟨B,c,b1,b2,b3,b4⟩:=a3 i r hi;obtain⟨b,o,hA,hc,hb⟩:=a2.at_ b1;exact⟨b,o,B,c,hA,hc,b2,b3,b4,hb⟩
def StV(w:World)(A:Option Addr)(s:List (List (List Int))):Prop:=
 ∃vs:List Value,vs.length=s.length/\Arr w A 91 vs/\∀(i:Nat)(m:List (List Int)),s[i]? =some m->∃B c,vs[i]? =some (.slice B m.length c)/\MatV w B m/\m.length<=c/\c<=9223372036854775807
theorem StV.ext{s:List (List (List Int))}(h:StV w A s)(hx:Ext w w'):StV w' A s:=by
 obtain⟨vs,h1,h2,h3⟩:=h;refine⟨vs,h1,h2.ext hx,fun i z hz=>?_⟩;obtain⟨B,c,a1,a2,a3⟩:=h3 i z hz;exact⟨B,c,a1,a2.ext hx,a3⟩
theorem StV.at_{s:List (List (List Int))}(h:StV w A s)(hi:s[i]? =some m):
  ∃b o B c,A=some ⟨b,o,none⟩/\w.cell? ⟨b,o+i,none⟩=some (.slice B m.length c)/\MatV w B m/\m.length<=c/\c<=9223372036854775807/\b<w.heap.size:=by
 obtain⟨vs,a1,a2,a3⟩:=h;obtain⟨B,c,b1,b2,b3,b4⟩:=a3 i m hi;obtain⟨b,o,hA,hc,hb⟩:=a2.at_ b1;exact⟨b,o,B,c,hA,hc,b2,b3,b4,hb⟩
section
variable {w w' w2:World} {ze:Nat} {e:TypeId}
theorem Grow.trans(h:Grow ze e w w')(h':Ext w' w2)(hb:ze<=w.heap.size):Grow ze e w w2:=
 ⟨h.below.trans (h'.below.mono (Nat.le_trans hb h.below.size)),fun k hk hne=>(h'.below.block k (Nat.lt_of_lt_of_le hk h.below.size)).trans (h.typed k hk hne)⟩
theorem Grow.alloc(h:Grow ze e w w')(hb:ze<=w.heap.size)(o:Obj):Grow ze e w (w'.alloc o):=h.trans Zi hb
theorem Grow.setNew(h:Grow ze e w w')(hp:w.heap.size<=p.block)(hb:ze<=w.heap.size)(u:Value):Grow ze e w (w'.setCell p u):=
 ⟨h.below.setCell (Nat.le_trans hb hp) u,fun k hk hne=>(Below.heap_setCell w' p u k (by omega)).trans (h.typed k hk hne)⟩
theorem Grow.setOld(h:Grow ze e w w')(hg:w.heap[g]? =some (.cells cs e fr))(hb:ze<=g)(hp:p.block=g)(u:Value):Grow ze e w (w'.setCell p u):=
 ⟨h.below.setCell (by omega) u,fun k hk hne=>(Below.heap_setCell w' p u k (fun hh=>by rw[hp]at hh;subst hh;exact hne _ _ hg)).trans (h.typed k hk hne)⟩
end
def tab(F:Nat->Nat->Int)(zc cols:Nat):List (List Int):=(List.range zc).map fun i=>(List.range cols).map fun j=>F i j
theorem Qu(F:Nat->Nat->Int)(zc cols i:Nat)(hi:i<zc):(tab F zc cols)[i]? =some ((List.range cols).map fun j=>F i j):=by simp[tab,hi]
theorem zt(F:Nat->Nat->Int)(zc cols:Nat):(tab F zc cols).length=zc:=by simp[tab]
def jB(w:World)(m:List (List Int))(e:Ending)(w':World):Prop:=∃A c,e= .returned (.slice A m.length c)/\MatV w' A m/\m.length<=c/\c<=9223372036854775807/\Step w w'
def Heads(w:World)(G:Nat)(F:Nat->Nat->Int)(zc cols k:Nat):Prop:=
 ∃hd:List Value,VRow w G 126 hd/\hd.length=zc/\(∀i,i<k->∃B,hd[i]? =some (.slice B cols cols)/\IntsV w B ((List.range cols).map fun j=>F i j))/\∀i,k<=i->i<zc->hd[i]? =some (.slice none 0 0)
def Cells2(w:World)(g:Nat)(F:Nat->Int)(cols q:Nat):Prop:=
 ∃cs:List Value,VRow w g 178 cs/\cs.length=cols*2/\(∀j,j<q->∃s B n c,cs[j*2]? =some (.bool s)/\cs[j*2+1]? =some (.slice B n c)/\IntV w s B n c (F j))/\∀j,q<=j->j<cols->cs[j*2]? =some (.bool false)/\cs[j*2+1]? =some (.slice none 0 0)
theorem Heads.made(w:World)(F:Nat->Nat->Int)(zc cols:Nat):Heads (w.alloc (.cells (zR #[.slice none 0 0] (zc*1)) 126)) w.heap.size F zc cols 0:=by
 refine⟨_,VRow.new w _ _,?_,fun i hi=>absurd hi (by omega),fun i _ hi=>?_⟩
 ·rw[JO];omega
 ·rw[ja,Nat.mul_one,List.getElem?_replicate];simp[hi]
theorem Cells2.made(w:World)(F:Nat->Int)(cols:Nat):Cells2 (w.alloc (.cells (zR #[.bool false,.slice none 0 0] (cols*2)) 178)) w.heap.size F cols 0:=by
 refine⟨_,VRow.new w _ _,JO _ _,fun i hi=>absurd hi (by omega),fun j _ hj=>⟨?_,?_⟩⟩
 ·rw[zbb _ _ _ (by omega) (by simp)];simp
 ·rw[zbb _ _ _ (by omega) (by simp)];simp
theorem Cells2.full(h:Cells2 w g F cols cols):IntsV w (some ⟨g,0,none⟩) ((List.range cols).map F):=by
 obtain⟨cs,h1,h2,h3,h4⟩:=h;refine⟨cs,by simp[h2],h1.arr,fun i z hz=>?_⟩;have hi:i<cols:=by
  rcases Zl i cols with hi|hi
  ·exact hi
  ·rw[getElem?_eq_none (by simpa using hi)]at hz;cases hz
 simp[hi]at hz;subst hz;exact h3 i hi
theorem Cells2.ext(h:Cells2 w g F cols q)(hx:Ext w w'):Cells2 w' g F cols q:=by
 obtain⟨cs,h1,h2,h3,h4⟩:=h;refine⟨cs,h1.ext hx,h2,fun j hj=>?_,h4⟩;obtain⟨s,B,n,c,a1,a2,a3⟩:=h3 j hj;exact⟨s,B,n,c,a1,a2,a3.ext hx⟩
theorem Cells2.put(h:Cells2 w g F cols q)(hq:q<cols){s:Bool}(hz:IntV w s B n c (F q)):
  Cells2 ((w.setCell ⟨g,q*2,none⟩ (.bool s)).setCell ⟨g,q*2+1,none⟩ (.slice B n c)) g F cols (q+1):=by
 obtain⟨cs,h1,h2,h3,h4⟩:=h;have key:∀{s':Bool}{B':Option Addr}{n' c':Nat}{z:Int},IntV w s' B' n' c' z->IntV ((w.setCell ⟨g,q*2,none⟩ (.bool s)).setCell ⟨g,q*2+1,none⟩ (.slice B n c)) s' B' n' c' z:=fun hz'=>
  (hz'.setCell (p:=⟨g,q*2,none⟩) h1 (by decide) _).setCell (p:=⟨g,q*2+1,none⟩) (h1.set _ _) (by decide) _
 refine⟨_,(h1.set (q*2) (.bool s)).set (q*2+1) (.slice B n c),by simp[h2],fun j hj=>?_,fun j hj1 hj2=>?_⟩
 ·rcases Zl j q with hjq|hjq
  ·obtain⟨s',B',n',c',a1,a2,a3⟩:=h3 j hjq;refine⟨s',B',n',c',?_,?_,key a3⟩
   ·rw[getElem?_set_ne (by omega),getElem?_set_ne (by omega)];exact a1
   ·rw[getElem?_set_ne (by omega),getElem?_set_ne (by omega)];exact a2
  ·obtain rfl:j=q:=by omega
   refine⟨s,B,n,c,?_,?_,key hz⟩
   ·rw[getElem?_set_ne (by omega),getElem?_set_self (by omega)]
   ·rw[getElem?_set_self (by rw[List.length_set];omega)]
 ·obtain⟨a1,a2⟩:=h4 j (by omega) hj2;constructor
  ·rw[getElem?_set_ne (by omega),getElem?_set_ne (by omega)];exact a1
  ·rw[getElem?_set_ne (by omega),getElem?_set_ne (by omega)];exact a2
theorem Cells2.cells(h:Cells2 w g F cols q)(hq:q<cols):
  w.cell? ⟨g,q*2,none⟩=some (.bool false)/\w.cell? ⟨g,q*2+1,none⟩=some (.slice none 0 0)/\w.frozen? ⟨g,q*2,none⟩=false/\w.frozen? ⟨g,q*2+1,none⟩=false/\g<w.heap.size:=by
 obtain⟨cs,h1,h2,h3,h4⟩:=h;obtain⟨a1,a2⟩:=h4 q Zr hq;exact⟨h1.cell a1,h1.cell a2,h1.frozen _,h1.frozen _,h1.lt⟩
theorem Cells2.far(h:Cells2 w g F cols q){e':TypeId}(hp:w.heap[p.block]? =some (.cells cs' e' fr))(hne:178≠e')(zt3:305≠e')(u:Value):Cells2 (w.setCell p u) g F cols q:=by
 obtain⟨cs,h1,h2,h3,h4⟩:=h;have hg:g≠p.block:=fun hh=>by
  rw[<-hh]at hp;unfold VRow at h1;rw[h1]at hp;injection hp with hp
  injection hp with _ he
  exact hne he
 refine⟨cs,h1.far hg u,h2,fun j hj=>?_,h4⟩;obtain⟨s',B',n',c',a1,a2,a3⟩:=h3 j hj;exact⟨s',B',n',c',a1,a2,a3.setCell hp zt3 u⟩
theorem qd(w:World)(p:Addr)(u:Value):(w.setCell p u).heap.size=w.heap.size:=by simp[World.setCell]
set_option maxRecDepth 10000 in
theorem ziZ(f:FuncId)(caps:Array Value)(zc cols:Nat)(h1:zc<=1000000)(h2:cols<=1000000)(hf:ql f)(F:Nat->Nat->Int)
  (H:∀(i j:Nat)(W:World),i<zc->j<cols->Ext w W->Cq f (#[.int .i64 i,.int .i64 j]++caps) W (zx W (F i j))):
  Cq 310 #[.int .i64 zc,.int .i64 cols,.func (.func f) #[] caps] w (jB w (tab F zc cols)):=by
 have hmk:=ZX (P:=Tryz.prog) Tryz.underlying91 zat (by omega) (zc:Int) (by omega) (by omega);have zrd:=ZX (P:=Tryz.prog) Tryz.underlying126 Q9 (by omega) (cols:Int) (by omega) (by omega);have HH:=Zh H;have HF:=Zh hf;clear H hf;go_enter Tryz.func310,Tryz.ntmps310;go_wp2;go_loopw [8,9,14] (fun _ _ i wr=>∃k:Nat,k<=zc/\i= .int .i64 k/\Heads wr w.heap.size F zc cols k/\Ext w wr) (fun _ _ i _=>zc-(intOf i).toNat)
 case atStart=>exact⟨0,by omega,rfl,by simpa[Value.cells] using Heads.made w F zc cols,Zi⟩
 case round=>
  obtain⟨k,hk,rfl,hH,hxr⟩:=hrel;by_cases zqz:k<zc
  ·obtain⟨hd,v1,v2,v3,v4⟩:=hH;have hc1:=v1.cell (v4 k Zr zqz);have hc2:=v1.frozen k;have hsz:=v1.lt;obtain⟨wo,rfl⟩:∃wo:World,wo=wr:=⟨_,rfl⟩;have V2:=Zh v2;have V3:=Zh v3;have V4:=Zh v4;clear v2 v3 v4;go_wp2;go_loopw [9,27] (fun _ j wr=>∃q:Nat,q<=cols/\j= .int .i64 q/\Grow w.heap.size 126 wo wr/\VRow wr w.heap.size 126 (hd.set k (.slice (some ⟨wo.heap.size,0,none⟩) cols cols))/\Cells2 wr wo.heap.size (F k) cols q/\Ext w wr) (fun _ j _=>cols-(intOf j).toNat)
   case atStart=>
    refine⟨0,by omega,rfl,?_,?_,?_,?_⟩
    ·exact((Grow.refl _ _ _).setOld (p:=⟨w.heap.size,k,none⟩) v1 Zr rfl _).alloc hxr.size _
    ·exact(v1.set _ _).ext Zi
    ·have:=Cells2.made (wo.setCell ⟨w.heap.size,k,none⟩ (.slice (some ⟨wo.heap.size,0,none⟩) cols cols)) (F k) cols;rwa [qd]at this
    ·exact Zi
   case round=>
    obtain⟨q,hq,rfl,hG,hV,hC,hxq⟩:=hrel;by_cases hlt:q<cols
    ·have hkl:k<hd.length:=by have:=V2.out;omega
     have zqe:wr.cell? ⟨w.heap.size,k,none⟩=some (.slice (some ⟨wo.heap.size,0,none⟩) cols cols):=hV.cell (by rw[getElem?_set_self hkl]);obtain⟨c1,c2,c3,c4,c5⟩:=hC.cells hlt;go_wp2;have hcf:=HF.out;unfold ql at hcf;have hne:w.heap.size≠wo.heap.size:=by omega
     have zq2:(hd.set k (.slice (some ⟨wo.heap.size,0,none⟩) cols cols))[k]? =some (.slice (some ⟨wo.heap.size,0,none⟩) cols cols):=by rw[getElem?_set_self hkl]
     have HN:=Zh hne;have HS:=Zh zq2;clear hne zq2;go_region_held3 (fun w'=>w'.cell? ⟨w.heap.size,k,none⟩=some (.slice (some ⟨wo.heap.size,0,none⟩) cols cols))
      (first
       |exact(hV.ext Zi).cell HS.out
       |exact(((hV.ext Zi).far (p:=⟨wo.heap.size,q*2,none⟩) HN.out _).far (p:=⟨wo.heap.size,q*2+1,none⟩) HN.out _).cell HS.out)
      (first
       |(refine(HH.out _ _ _ zqz hlt Zi).mono ?_;rintro e w2 ⟨g,B,k',d,rfl,hz,hs2⟩;obtain⟨d1,d2,d3,d4,d5⟩:=(hC.ext (Zi:Ext wr w2)).cells hlt))
     go_wp2;refine⟨⟨q+1,by omega,by go_num,?_,?_,?_,?_⟩,by simp[intOf]<;>omega⟩
     ·exact((hG.trans (Zi:Ext wr w2) hxr.size).setNew (p:=⟨wo.heap.size,q*2,none⟩) Zr hxr.size _).setNew (p:=⟨wo.heap.size,q*2+1,none⟩) Zr hxr.size _
     ·exact((hV.ext (Zi:Ext wr w2)).far (p:=⟨wo.heap.size,q*2,none⟩) HN.out _).far (p:=⟨wo.heap.size,q*2+1,none⟩) HN.out _
     ·exact(hC.ext (Zi:Ext wr w2)).put hlt hz
     ·exact((Zi:Ext w w2).setCell (p:=⟨wo.heap.size,q*2,none⟩) hxr.size _).setCell (p:=⟨wo.heap.size,q*2+1,none⟩) hxr.size _
    ·obtain rfl:q=cols:=by omega
     have zre:=hC.full;go_wp2;refine⟨⟨k+1,by omega,by go_num,⟨_,hV,by rw[List.length_set];exact V2.out,fun i hi=>?_,fun i hi1 hi2=>?_⟩,hxq⟩,by simp[intOf]<;>omega⟩
     ·have hkl:k<hd.length:=by have:=V2.out;omega
      rcases Zl i k with h|h
      ·obtain⟨B,b1,b2⟩:=V3.out i h;exact⟨B,by rw[getElem?_set_ne (by omega)];exact b1,b2.grow hG (by decide) (by decide)⟩
      ·obtain rfl:i=k:=by omega
       exact⟨_,by rw[getElem?_set_self hkl],zre⟩
     ·rw[getElem?_set_ne (by omega)];exact V4.out i (by omega) hi2
  ·obtain rfl:k=zc:=by omega
   have HHd:=Zh hH;clear hH;go_wp2;go_ret;obtain⟨hd,v1,v2,v3,v4⟩:=HHd.out;refine⟨_,k,by rw[zt];rfl,⟨hd,by rw[v2,zt],v1.arr,fun i r hr=>?_⟩,by rw[zt];omega,by omega,hxr.toStep⟩;have hi:i<k:=by
    rcases Zl i k with hi|hi
    ·exact hi
    ·rw[getElem?_eq_none (by rw[zt];exact hi)]at hr;cases hr
   rw[Qu _ _ _ _ hi]at hr;injection hr with hr
   subst hr;obtain⟨B,b1,b2⟩:=v3 i hi;exact⟨B,cols,by simpa using b1,b2,by simp,by omega⟩
def Heads1(w:World)(G:Nat)(F:Nat->Nat->Int)(zc cols k:Nat):Prop:=
 ∃hd:List Value,VRow w G 31 hd/\hd.length=zc/\(∀i,i<k->∃B,hd[i]? =some (.slice B cols cols)/\Ints w B 2 .i64 ((List.range cols).map fun j=>F i j))/\∀i,k<=i->i<zc->hd[i]? =some (.slice none 0 0)
def Cells1(w:World)(g:Nat)(F:Nat->Int)(cols q:Nat):Prop:=Row w g 2 .i64 ((List.range q).map F++List.replicate (cols-q) 0)/\q<=cols
theorem Cells1.made(w:World)(F:Nat->Int)(cols:Nat):Cells1 (w.alloc (.cells (zR #[.int .i64 0] (cols*1)) 2)) w.heap.size F cols 0:=by
 refine⟨?_,Nat.zero_le _⟩;have:(zR #[.int .i64 0] (cols*1))=qv cols .i64:=by
  apply Array.ext';rw[ja];simp[qv]
 rw[this];simpa using Row.made w cols .i64 2
theorem Cells1.full(h:Cells1 w g F cols cols):Ints w (some ⟨g,0,none⟩) 2 .i64 ((List.range cols).map F):=by
 have:=h.1.ints;simpa using this
theorem Cells1.ext(h:Cells1 w g F cols q)(hx:Ext w w'):Cells1 w' g F cols q:=⟨h.1.ext hx,h.2⟩
theorem Cells1.put(h:Cells1 w g F cols q)(hq:q<cols):Cells1 (w.setCell ⟨g,q,none⟩ (.int .i64 (F q))) g F cols (q+1):=by
 refine⟨?_,hq⟩;have:=h.1.fill (by omega) (show ((List.range q).map F).length=q by simp) (F q);rw[List.range_succ,List.map_append,show cols-(q+1)=cols-q-1 by omega];exact this
theorem Cells1.cells(h:Cells1 w g F cols q)(hq:q<cols):
  w.cell? ⟨g,q,none⟩=some (.int .i64 0)/\w.frozen? ⟨g,q,none⟩=false/\g<w.heap.size:=by
 obtain⟨x,hx,hc⟩:=h.1.cell (i:=q) (by simp;omega);rw[List.getElem?_append_right (by simp)]at hx;have hx0:x=0:=List.eq_of_mem_replicate (Zm hx);subst hx0;exact⟨hc,h.1.frozen _,h.1.lt⟩
theorem Heads1.made(w:World)(F:Nat->Nat->Int)(zc cols:Nat):Heads1 (w.alloc (.cells (zR #[.slice none 0 0] (zc*1)) 31)) w.heap.size F zc cols 0:=by
 refine⟨_,VRow.new w _ _,?_,fun i hi=>absurd hi (by omega),fun i _ hi=>?_⟩
 ·rw[JO];omega
 ·rw[ja,Nat.mul_one,List.getElem?_replicate];simp[hi]
def AllLen(m:List (List Int))(n:Nat):Prop:=∀r∈m,r.length=n
theorem zi0(h:MatA w0 A m)(n:Nat)(h1:1<=m.length)(h2:m.length<=16)(h3:1<=n)(h4:n<=16)(hn:AllLen m n)[hx:Ext w0 w]:
  Cq 309 #[.slice A m.length c] w (Zj w (.tuple #[.int .i64 m.length,.int .i64 n,.bool true])):=by
 have h0:=h.ext hx;have hg:∀(i:Nat)(r:List Int),m[i]? =some r->r.length=n:=fun i r hr=>hn r (Zm hr)
 obtain⟨b,o,B,c0,rfl,hc0,-,-,-,hb⟩:=h0.at_ (i:=0) (r:=m[0]) (by simp);rw[hg 0 m[0] (by simp)]at hc0;simp only[Nat.add_zero]at hc0;have HG:=Zh hg;clear hg hn;have hd1:decide ((m.length:Int)<1)=false:=by simp;omega
 have hd2:decide ((16:Int)<(m.length:Int))=false:=by simp;omega
 have hd3:decide ((n:Int)<1)=false:=by simp;omega
 have hd4:decide ((16:Int)<(n:Int))=false:=by simp;omega
 go_enter Tryz.func309,Tryz.ntmps309;go_wp2;go_loop [7,28] (fun _ i=>∃k:Nat,k<=m.length/\i= .int .i64 k) (fun _ i=>m.length-(intOf i).toNat)
 case atStart=>exact⟨0,by omega,rfl⟩
 case round=>
  obtain⟨k,hk,rfl⟩:=hrel;by_cases hlt:k<m.length
  ·obtain⟨b',o',B',c',hh,hc,-,-,-,-⟩:=h0.at_ (i:=k) (r:=m[k]) (by simp[hlt]);injection hh with hh
   injection hh with e1 e2
   subst e1 e2;rw[HG.out k m[k] (by simp[hlt])]at hc;go_wp2;exact⟨⟨k+1,by omega,by go_num⟩,by simp[intOf]<;>omega⟩
  ·go_wp2;go_ret3
   exact⟨rfl,rfl⟩
theorem zi1(h:MatA w0 A m)(i j:Nat)(r:List Int)(x:Int)(hr:m[i]? =some r)(hxr:r[j]? =some x)(hx0:-9223372036854775808<=x)(hx1:x<=9223372036854775807)
  (hp:w.cell? ⟨pb,0,none⟩=some (.slice A m.length c)) (hpb:pb<w.heap.size) [hx:Ext w0 w]:
  Cq 311 #[.int .i64 i,.int .i64 j,.pointer (some ⟨pb,0,none⟩)] w (zx w x):=by
 have h0:=h.ext hx;obtain⟨b,o,B,c0,rfl,hc0,hI,hc1,hc2,hb⟩:=h0.at_ hr;have hi:i<m.length:=(Zg.1 hr).1;have hj:j<r.length:=(Zg.1 hxr).1;obtain⟨b1,o1,x1,rfl,hx2,hc3,hb1⟩:=hI.at_ hj;have hxx:x1=x:=by rw[hx2]at hxr;injection hxr
 subst hxx;clear hx2 hxr hr;go_enter Tryz.func311,Tryz.ntmps311;go_wp2_with fail
 refine(zca x1 hx0 hx1 _).mono ?_;rintro e w2 ⟨g,B2,k2,d2,rfl,hz,hs2⟩;obtain⟨q0,q1,q2,q3,q4,q5⟩:=qu w w2 (.bool false) (.slice none 0 0) 178;have Q0:=Zh q0;clear q0;go_wp2;exact bodyPost_ret (v:= .agg #[.bool g,.slice B2 k2 d2]) (by simp[results,Tryz.results311,go_sem,q1,q2]) rfl ⟨_,_,_,_,rfl,hz.boxed (by decide) Q0.out _ _,Step.of _ _⟩
def qw(m:List (List Int)):Prop:=∀r∈m,∀x∈r,-9223372036854775808<=x/\x<=9223372036854775807
def zi2(w:World)(m:List (List Int))(b:Bool)(e:Ending)(w':World):Prop:=∃A c,e= .returned (.tuple #[.slice A m.length c,.bool b])/\MatV w' A m/\m.length<=c/\c<=9223372036854775807/\Step w w'
theorem Jj(m:List (List Int))(n:Nat)(hn:AllLen m n):tab (fun i j=>(m.getD i []).getD j 0) m.length n=m:=by
 apply List.ext_getElem?;intro i;rcases Zl i m.length with hi|hi
 ·rw[Qu _ _ _ _ hi];have hr:m[i]? =some m[i]:=by simp
  rw[hr];congr 1
  have hl:m[i].length=n:=hn _ (getElem_mem hi);apply List.ext_getElem?;intro j;rcases Zl j n with hj|hj
  ·simp[hj,hi,List.getD,hl]
  ·rw[getElem?_eq_none (by simpa using hj),getElem?_eq_none (by omega)]
 ·rw[getElem?_eq_none (by rw[zt];exact hi),getElem?_eq_none hi]
theorem zi3:ql 311:=Ji Tryz.func311 (by kernel_rfl) (by kernel_rfl)
theorem zez(h:MatA w0 A m)(n:Nat)(h1:1<=m.length)(h2:m.length<=16)(h3:1<=n)(h4:n<=16)(hn:AllLen m n)(h64:qw m)[hx:Ext w0 w]:
  Cq 252 #[.slice A m.length c] w (zi2 w m true):=by
 have hb:=ziZ (w:=w.alloc (.cells #[.slice A m.length c] 22)) 311 #[.pointer (some ⟨w.heap.size,0,none⟩)] m.length n (by omega) (by omega) zi3 (fun i j=>(m.getD i []).getD j 0)
  (fun i j W hi hj hW=>by
   have hr:m[i]? =some m[i]:=by simp
   have hl:m[i].length=n:=hn _ (getElem_mem hi);have hxj:m[i][j]? =some (m[i][j]'(by omega)):=by simp
   have zql:=h64 m[i] (getElem_mem hi) _ (getElem_mem (by omega:j<m[i].length));have e1:(m.getD i []).getD j 0=m[i][j]'(by omega):=by simp[List.getD,hi,hxj]
   rw[e1];have zqB:W.cell? ⟨w.heap.size,0,none⟩=some (.slice A m.length c):=by
    have:=zh hW (heap_alloc_new w _);simp[World.cell?,this]
   have hsz:w.heap.size<W.heap.size:=zw (zh hW (heap_alloc_new w _));have:Ext w W:=Ext.trans Zi hW;have:Ext w0 W:=hx.trans this;exact zi1 h i j m[i] _ hr hxj zql.1 zql.2 zqB hsz)
 rw[Jj m n hn]at hb;have HB:=Zh hb;clear hb;go_enter Tryz.func252,Tryz.ntmps252;go_wp2_with fail
 refine(zi0 h n h1 h2 h3 h4 hn).mono ?_;rintro e w' ⟨rfl,rfl⟩;go_wp2_with fail
 refine HB.out.mono ?_;rintro e w2 ⟨A2,c2,rfl,hm,hc1,hc2,hs2⟩;go_wp2;go_ret2
 exact⟨A2,c2,rfl,hm,hc1,hc2,Step.of _ _⟩
theorem zeA(h:MatV w0 A m)(n:Nat)(h1:1<=m.length)(h2:m.length<=16)(h3:1<=n)(h4:n<=16)(hn:AllLen m n)[hx:Ext w0 w]:
  Cq 313 #[.slice A m.length c] w (Zj w (.tuple #[.int .i64 m.length,.int .i64 n,.bool true])):=by
 have h0:=h.ext hx;have hg:∀(i:Nat)(r:List Int),m[i]? =some r->r.length=n:=fun i r hr=>hn r (Zm hr)
 obtain⟨b,o,B,c0,rfl,hc0,-,-,-,hb⟩:=h0.at_ (i:=0) (r:=m[0]) (by simp);rw[hg 0 m[0] (by simp)]at hc0;simp only[Nat.add_zero]at hc0;have HG:=Zh hg;clear hg hn;have hd1:decide ((m.length:Int)<1)=false:=by simp;omega
 have hd2:decide ((16:Int)<(m.length:Int))=false:=by simp;omega
 have hd3:decide ((n:Int)<1)=false:=by simp;omega
 have hd4:decide ((16:Int)<(n:Int))=false:=by simp;omega
 go_enter Tryz.func313,Tryz.ntmps313;go_wp2;go_loop [7,28] (fun _ i=>∃k:Nat,k<=m.length/\i= .int .i64 k) (fun _ i=>m.length-(intOf i).toNat)
 case atStart=>exact⟨0,by omega,rfl⟩
 case round=>
  obtain⟨k,hk,rfl⟩:=hrel;by_cases hlt:k<m.length
  ·obtain⟨b',o',B',c',hh,hc,-,-,-,-⟩:=h0.at_ (i:=k) (r:=m[k]) (by simp[hlt]);injection hh with hh
   injection hh with e1 e2
   subst e1 e2;rw[HG.out k m[k] (by simp[hlt])]at hc;go_wp2;exact⟨⟨k+1,by omega,by go_num⟩,by simp[intOf]<;>omega⟩
  ·go_wp2;go_ret3
   exact⟨rfl,rfl⟩
theorem zi4(h:MatV w0 A m)(n:Nat)(h1:1<=m.length)(h2:m.length<=16)(h3:1<=n)(h4:n<=16)(hn:AllLen m n)[hx:Ext w0 w]:
  Cq 362 #[.slice A m.length c] w (Zj w (.tuple #[.int .i64 m.length,.int .i64 n,.bool true])):=by
 go_enter Tryz.func362,Tryz.ntmps362;go_wp2_with (go_at_call 313;refine(zeA h n h1 h2 h3 h4 hn).mono ?_;rintro e w' ⟨rfl,rfl⟩)
 go_ret3
 exact⟨rfl,rfl⟩
theorem zau{b:Nat}{v:Value}(h:w.cell? ⟨b,i,none⟩=some v):w.setCell ⟨b,i,none⟩ v=w:=by
 unfold World.cell? at h;unfold World.setCell;have:(w.heap.modify b fun x=>match x with
   | .cells c elem frozen=> .cells (if (none:Option Nat).isSome then c else c.setIfInBounds i v) elem frozen
   |o=>o)=w.heap:=by
  apply Array.ext_getElem?;intro k;rw[Array.getElem?_modify];split
  ·rename_i hk
   subst hk
   cases hb:w.heap[b]? with
   |none=>simp
   |some o=>
    simp only[hb]at h
    cases o with
    |cells cs e fr=>
     simp at h;simp only[Option.map_some,Option.isSome_none,Bool.false_eq_true,if_false];congr 2
     apply Array.ext_getElem?;intro q;rw[Array.getElem?_setIfInBounds];split
     ·rename_i hq
      subst hq;obtain⟨hlt,hv⟩:=Array.getElem?_eq_some_iff.1 h;simp[hlt,hv]
     ·rfl
    |_=>simp at h
  ·rfl
 exact(congrArg (fun hp=>({w with heap:=hp}:World)) this).trans rfl
theorem zi5{ob:Nat}(h:MatV w0 A m)(i j:Nat)(r:List Int)(x:Int)(hr:m[i]? =some r)(hxr:r[j]? =some x)(hx0:-9223372036854775808<=x)(hx1:x<=9223372036854775807)
  (hp:w.cell? ⟨pb,0,none⟩=some (.slice A m.length c)) (ho:w.cell? ⟨ob,0,none⟩=some (.bool true)) (hob:ob<w.heap.size) (hof:w.frozen? ⟨ob,0,none⟩=false) [hx:Ext w0 w]:
  Cq 335 #[.int .i64 i,.int .i64 j,.pointer (some ⟨pb,0,none⟩),.pointer (some ⟨ob,0,none⟩)] w (zz w (.int .i64 x)):=by
 have h0:=h.ext hx;obtain⟨b,o,B,c0,rfl,hc0,hI,hc1,hc2,hb⟩:=h0.at_ hr;have hi:i<m.length:=(Zg.1 hr).1;have hj:j<r.length:=(Zg.1 hxr).1;obtain⟨b1,o1,g1,B1,n1,c1,rfl,hd1,hd2,hV,hb1⟩:=hI.at_ hj;have hxx:r[j]=x:=(Zg.1 hxr).2;rw[hxx]at hV;clear hxx hxr hr;go_enter Tryz.func335,Tryz.ntmps335;go_wp2_with fail
 refine(zes hV hx0 hx1).mono ?_;rintro e w2 ⟨rfl,hs2⟩;have hx2:Ext w w2:=hs2.ext;have ho2:w2.cell? ⟨ob,0,none⟩=some (.bool true):=(hx2.below.cell (p:=⟨ob,0,none⟩) hob).trans ho;have hf2:w2.frozen? ⟨ob,0,none⟩=false:=(hx2.below.frozen (p:=⟨ob,0,none⟩) hob).trans hof;have zqE:=Zh (zau ho2);go_wp2;go_ret;refine⟨rfl,?_⟩;rw[zqE.out];exact hs2
theorem zi6:ql 335:=Ji Tryz.func335 (by kernel_rfl) (by kernel_rfl)
def zi7(w:World)(m:List (List Int))(b:Bool)(e:Ending)(w':World):Prop:=∃A c,e= .returned (.tuple #[.slice A m.length c,.bool b])/\Mat64 w' A m/\m.length<=c/\c<=9223372036854775807/\Step w w'
theorem zav(W w':World)(s:Nat)(x:Value)(T:TypeId)(hs:W.heap.size=s)[h:Ext (W.alloc (.cells #[x] T)) w']:
  w'.heap[s]? =some (.cells #[x] T (0,0))/\w'.cell? ⟨s,0,none⟩=some x/\w'.frozen? ⟨s,0,none⟩=false/\s<w'.heap.size:=by
 subst hs;have h0:w'.heap[W.heap.size]? =some (.cells #[x] T (0,0)):=zh h (heap_alloc_new W _);exact⟨h0,by simp[World.cell?,h0],by simp[World.frozen?,h0],(Array.getElem?_eq_some_iff.1 h0).1⟩
end Go.Proofs.YtpijjipngkdhdaaGreat

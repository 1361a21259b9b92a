import Derived.Test.YtgoaelchibpffaaGreatT02
import Derived.Deep.RegionHeld3
set_option maxHeartbeats 8000000
set_option linter.unusedVariables false
set_option linter.unusedSimpArgs false
namespace Go.Proofs.YtgoaelchibpffaaGreat
open Go.RowKit
open List (getElem?_set_ne getElem?_set_self getElem_mem)
variable {p:Addr} {cs cs':Array Value} {na:Bool} {x y z:Int} {m:List (List Int)} {l r zs:List Int} {c cols d g i k n pb q s ze:Nat} {F:Nat->Int} {fr:Nat×Nat} {A B:Option Addr} {P:Program} {T e t:TypeId} {w w' w0 w1:World}
theorem zks{m:List Int}(na nb:Bool)(ha:Ints w0 A 212 .u32 l)(hb:Ints w1 B 212 .u32 m)(hl:Limbs l)(hm:Limbs m)(tl:Tight l)(tm:Tight m)
  (h1:l.length<=1099511627776) (h2:m.length<=1099511627776) [hx:Ext w0 w] [hy:Ext w1 w]:
  Cq 284 #[.bool na,.slice A l.length c,.bool nb,.slice B m.length d] w (zz w (zp na (val l)+zp nb (val m))):=by
 by_cases hn:na=nb
 ·subst hn;go_enter Tryz.func284,Tryz.ntmps284;go_wp2_with fail
  refine(zfj ha hb hl hm h1 h2).mono ?_;rintro e w1 ⟨B1,d1,l1,rfl,hi1,hl1,ht1,hv1,hd1,hd2,hs1⟩;have HV:=Zh hv1;clear hv1;go_wp2_with fail
  refine(JL na hi1 hl1 ht1 hd1 hd2).mono ?_;rintro e w2 ⟨g,B,k,d,rfl,hz,hs2⟩;obtain⟨q0,q1,q2,q3,q4,q5⟩:=qG w w2 (.bool false) (.slice none 0 0) 102;have Q0:=Zh q0;clear q0;go_wp2;refine bodyPost_ret (v:= .agg #[.bool g,.slice B k d]) (by simp[results,Tryz.results284,go_sem,q1,q2]) rfl ⟨_,_,_,_,rfl,?_,Step.of _ _⟩;have e1:zp na (val l1)=zp na (val l)+zp na (val m):=by rw[HV.out];cases na<;>simp[zp];omega
  rw[e1]at hz;exact hz.boxed ac Q0.out _ _
 ·have hnb:(na==nb)=false:=by simp[hn]
  by_cases hle:val m<=val l
  ·have zss:m.length<=l.length:=by
    rcases Zl l.length m.length with h|h
    ·have:=Jk hl hm tm h;omega
    ·exact h
   have hc:zo (val l) (val m)=0∨zo (val l) (val m)=1:=by unfold zo;split;omega;split<;>simp
   have hge:0<=zo (val l) (val m):=aa
   have HE:=Zh (show zp na (val l-val m)=zp na (val l)+zp nb (val m) by cases na<;>cases nb<;>simp_all [zp]<;>omega);clear hn hc;go_enter Tryz.func284,Tryz.ntmps284;go_wp2_with fail
   refine(zda ha hb hl hm tl tm aa aa).mono ?_;rintro e w3 ⟨rfl,hs3⟩;go_wp2_with fail
   refine(zdc ha hb hl hm h1 zss hle).mono ?_;rintro e w1 ⟨B1,d1,l1,rfl,hi1,hl1,ht1,hv1,hd1,hd2,hs1⟩;have HV:=Zh hv1;clear hv1;go_wp2_with fail
   refine(JL na hi1 hl1 ht1 hd1 hd2).mono ?_;rintro e w2 ⟨g,B,k,d,rfl,hz,hs2⟩;obtain⟨q0,q1,q2,q3,q4,q5⟩:=qG w w2 (.bool false) (.slice none 0 0) 102;have Q0:=Zh q0;clear q0;go_wp2;refine bodyPost_ret (v:= .agg #[.bool g,.slice B k d]) (by simp[results,Tryz.results284,go_sem,q1,q2]) rfl ⟨_,_,_,_,rfl,?_,Step.of _ _⟩;rw[HV.out,HE.out]at hz;exact hz.boxed ac Q0.out _ _
  ·have zss:l.length<=m.length:=by
    rcases Zl m.length l.length with h|h
    ·have:=Jk hm hl tl h;omega
    ·exact h
   have hc:=qr ((aa:val l<val m));have HE:=Zh (show zp nb (val m-val l)=zp na (val l)+zp nb (val m) by cases na<;>cases nb<;>simp_all [zp]<;>omega);clear hn;go_enter Tryz.func284,Tryz.ntmps284;go_wp2_with fail
   refine(zda ha hb hl hm tl tm aa aa).mono ?_;rintro e w3 ⟨rfl,hs3⟩;go_wp2_with fail
   refine(zdc hb ha hm hl h2 zss aa).mono ?_;rintro e w1 ⟨B1,d1,l1,rfl,hi1,hl1,ht1,hv1,hd1,hd2,hs1⟩;have HV:=Zh hv1;clear hv1;go_wp2_with fail
   refine(JL nb hi1 hl1 ht1 hd1 hd2).mono ?_;rintro e w2 ⟨g,B,k,d,rfl,hz,hs2⟩;obtain⟨q0,q1,q2,q3,q4,q5⟩:=qG w w2 (.bool false) (.slice none 0 0) 102;have Q0:=Zh q0;clear q0;go_wp2;refine bodyPost_ret (v:= .agg #[.bool g,.slice B k d]) (by simp[results,Tryz.results284,go_sem,q1,q2]) rfl ⟨_,_,_,_,rfl,?_,Step.of _ _⟩;rw[HV.out,HE.out]at hz;exact hz.boxed ac Q0.out _ _
theorem qS{neg:Bool}(h:IntV w0 neg A n c z)[hx:Ext w0 w]:
  Cq 188 #[.slice A n c] w (Zq w (.slice A n c)):=by
 obtain⟨l,rfl,h2,h3,h4,h5,h6,h7,h8⟩:=h;refine(zac (h6.ext hx) h7 h8).mono ?_;rintro e w' ⟨m,hm,ht,hv,rfl,rfl⟩;have:m=l.length:=by
  have e1:val (l.drop m)=0:=by
   have:=zbO (l:=l) m;have hp:=jf (l.take m).length;have h9:(4294967296:Int)^(l.take m).length*val (l.drop m)=0:=aa
   rcases Int.mul_eq_zero.1 h9 with h|h
   ·omega
   ·exact h
  have e2:Tight (l.drop m):=by
   intro hh;apply h3;rw[List.getLast?_drop]at hh;split at hh
   ·simp at hh
   ·exact hh
  have e3:=(zaW (h2.drop m) e2).1 e1;have:=List.drop_eq_nil_iff.1 e3;omega
 subst this;exact⟨rfl,rfl⟩
theorem IntV.boxedN{g:Bool}{z':Int}(hz:IntV w g B k d z)(he:z=z')(hT:212≠T)(q:w.heap[s]? =some (.cells cs T (0,0)))(u v:Value):
  IntV ((w.setCell ⟨s,0,none⟩ u).setCell ⟨s,1,none⟩ v) g B k d z':=he▸hz.boxed hT q u v
theorem zfm{nb:Bool}(ha:IntV w0 na A n c x)(hb:IntV w1 nb B k d y)
  (h1:n<=1099511627776) (h2:k<=1099511627776) [hx:Ext w0 w] [hy:Ext w1 w]:
  Cq 248 #[.agg #[.bool na,.slice A n c],.agg #[.bool nb,.slice B k d]] w (zz w (x-y)):=by
 obtain⟨la,rfl,hl,tl,hv,hsx,hi,h7,h8⟩:=id ha;obtain⟨lb,rfl,hl',tl',hv',hsy,hi',h7',h8'⟩:=id hb;have HE:=Zh (show zp na (val la)+zp (!nb) (val lb)=x-y by subst hsx hsy;rw[hv,hv'];unfold zp;split<;>split<;>simp_all<;>omega);clear hv hv' hsx hsy;go_enter Tryz.func248,Tryz.ntmps248;go_wp2;go_region_held3 (fun w'=>w'.cell? ⟨w.heap.size,0,none⟩=some (.bool na)/\w'.cell? ⟨w.heap.size,1,none⟩=some (.slice A la.length c)/\w'.cell? ⟨w.heap.size+1,0,none⟩=some (.bool nb)/\w'.cell? ⟨w.heap.size+1,1,none⟩=some (.slice B lb.length d)) (exact qp w _ _ _ _ _ 102 102)
  (first
   |(go_at_call_of 188 (Value.slice A la.length c);refine(qS ha).mono ?_;rintro e w' ⟨rfl,rfl⟩)
   |(go_at_call_of 188 (Value.slice B lb.length d);refine(qS hb).mono ?_;rintro e w' ⟨rfl,rfl⟩)
   |(go_at_call 284;refine(zks na (!nb) hi hi' hl hl' tl tl' h1 h2).mono ?_;rintro e w2 ⟨g,B1,k1,d1,rfl,hz,hs2⟩;obtain⟨q0,q1,q2,q3,q4,q5⟩:=jy w w2 (.cells #[.bool na,.slice A la.length c] 102) (.cells #[.bool nb,.slice B lb.length d] 102) (.bool false) (.slice none 0 0) 102))
 have Q0:=Zh q0;clear q0;go_wp2;exact bodyPost_ret (v:= .agg #[.bool g,.slice B1 k1 d1]) (by simp[results,Tryz.results248,go_sem,q1,q2]) rfl ⟨_,_,_,_,rfl,hz.boxedN HE.out ac Q0.out _ _,Step.of _ _⟩
theorem IntV.zero_iff{neg:Bool}(h:IntV w neg A n c z):n=0↔z=0:=by
 obtain⟨l,rfl,h2,h3,h4,_⟩:=h;have:=zaW h2 h3;constructor
 ·intro hn;have hl:=List.eq_nil_of_length_eq_zero hn;subst hl;simp[val]at h4;omega
 ·rintro rfl;have:=this.1 (by rw[h4];rfl);subst this;rfl
theorem IntV.neg_eq{neg:Bool}(h:IntV w neg A n c z):neg=decide (z<0):=by
 obtain⟨l,_,_,_,_,h5,_⟩:=h;exact h5
theorem zbQ{nb:Bool}(ha:IntV w0 na A n c x)(hb:IntV w1 nb B k d y)
  (h1:n<=1099511627776) (h2:k<=1099511627776) [hx:Ext w0 w] [hy:Ext w1 w]:
  Cq 249 #[.agg #[.bool na,.slice A n c],.agg #[.bool nb,.slice B k d]] w (zz w (x*y)):=by
 obtain⟨la,rfl,hl,tl,hv,hsx,hi,h7,h8⟩:=id ha;obtain⟨lb,rfl,hl',tl',hv',hsy,hi',h7',h8'⟩:=id hb;have HE:=Zh (show zp (na !=nb) (val la*val lb)=x*y by
  subst hsx hsy;rw[hv,hv',<-Int.natCast_mul,<-Int.natAbs_mul];unfold zp;by_cases hx:x<0<;>by_cases hy:y<0<;>simp[hx,hy]
  ·have:=Int.mul_pos_of_neg_of_neg hx hy;omega
  ·have:=Int.mul_nonpos_of_nonpos_of_nonneg (Int.le_of_lt hx) (aa:0<=y);omega
  ·have:=Int.mul_nonpos_of_nonneg_of_nonpos (aa:0<=x) (Int.le_of_lt hy);omega
  ·have:=Int.mul_nonneg (aa:0<=x) (aa:0<=y);omega)
 clear hv hv' hsx hsy;go_enter Tryz.func249,Tryz.ntmps249;go_wp2;go_region_held3 (fun w'=>w'.cell? ⟨w.heap.size,0,none⟩=some (.bool na)/\w'.cell? ⟨w.heap.size,1,none⟩=some (.slice A la.length c)/\w'.cell? ⟨w.heap.size+1,0,none⟩=some (.bool nb)/\w'.cell? ⟨w.heap.size+1,1,none⟩=some (.slice B lb.length d)) (exact qp w _ _ _ _ _ 102 102)
  (first
   |(go_at_call_of 188 (Value.slice A la.length c);refine(qS ha).mono ?_;rintro e w' ⟨rfl,rfl⟩)
   |(go_at_call_of 188 (Value.slice B lb.length d);refine(qS hb).mono ?_;rintro e w' ⟨rfl,rfl⟩)
   |(go_at_call 285;refine(zkr hi hi' hl hl' h1 h2).mono ?_;rintro e w3 ⟨B1,d1,l1,rfl,hi1,hl1,ht1,hv1,hd1,hd2,hs1⟩;have HV:=Zh hv1;clear hv1)
   |(go_at_call 245;refine(JL (na !=nb) hi1 hl1 ht1 hd1 hd2).mono ?_;rintro e w2 ⟨g,B2,k2,d2,rfl,hz,hs2⟩;obtain⟨q0,q1,q2,q3,q4,q5⟩:=jy w w2 (.cells #[.bool na,.slice A la.length c] 102) (.cells #[.bool nb,.slice B lb.length d] 102) (.bool false) (.slice none 0 0) 102))
 have Q0:=Zh q0;clear q0;go_wp2;exact bodyPost_ret (v:= .agg #[.bool g,.slice B2 k2 d2]) (by simp[results,Tryz.results249,go_sem,q1,q2]) rfl ⟨_,_,_,_,rfl,hz.boxedN (by rw[HV.out];exact HE.out) ac Q0.out _ _,Step.of _ _⟩
theorem zfn(ha:IntV w0 na A n c x)[hx:Ext w0 w]:
  Cq 247 #[.agg #[.bool na,.slice A n c]] w (zA w (.int .i64 (zo x 0))):=by
 have hz:=ha.zero_iff;have hn:=ha.neg_eq;by_cases h0:x=0
 ·obtain rfl:=hz.2 h0;have HE:=Zh (Qm h0);clear hz hn h0;go_enter Tryz.func247,Tryz.ntmps247;go_wp2_with (go_at_call 188;refine(qS ha).mono ?_;rintro e w' ⟨rfl,rfl⟩)
  go_ret;exact⟨by rw[HE.out];rfl,Step.of _ _⟩
 ·have hn0:((n:Int)==0)=false:=by simp;exact fun h=>h0 (hz.1 h)
  by_cases zsu:x<0
  ·have HE:=Zh (qr zsu);obtain rfl:na=true:=by simp[hn,zsu]
   clear hz hn h0 zsu;go_enter Tryz.func247,Tryz.ntmps247;go_wp2_with (go_at_call 188;refine(qS ha).mono ?_;rintro e w' ⟨rfl,rfl⟩)
   go_ret;exact⟨by rw[HE.out];rfl,Step.of _ _⟩
  ·have HE:=Zh (Ql ((aa:0<x)));obtain rfl:na=false:=by simp[hn];omega
   clear hz hn h0 zsu;go_enter Tryz.func247,Tryz.ntmps247;go_wp2_with (go_at_call 188;refine(qS ha).mono ?_;rintro e w' ⟨rfl,rfl⟩)
   go_ret;exact⟨by rw[HE.out];rfl,Step.of _ _⟩
theorem zfo{neg:Bool}(h:IntV w0 neg A n c z)(h2:n<=2)[hx:Ext w0 w]:
  Cq 189 #[.slice A n c] w (Zq w (.int .u64 z.natAbs)):=by
 obtain⟨l,rfl,hl,h3,h4,h5,h6,h7,h8⟩:=h;rw[<-h4];exact zbM (h6.ext hx) hl h2
theorem zdf(ha:IntV w0 na A n c x)(h0:-9223372036854775808<=x)(h1:x<=9223372036854775807)[hx:Ext w0 w]:
  Cq 131 #[.agg #[.bool na,.slice A n c]] w (zA w (.tuple #[.int .i64 x,.bool true])):=by
 have hn:=ha.neg_eq;have zss:n<=2:=ha.len (k:=2) aa;by_cases zsu:x<0
 ·obtain rfl:na=true:=by simp[hn,zsu]
  have hab:(x.natAbs:Int)=-x:=aa
  have hw:=zfo (w:=w.alloc (.cells #[.bool true,.slice A n c] 102)) ha zss;rw[hab]at hw;have HW:=Zh hw;clear hn hw hab;have hle:decide (-x<=9223372036854775808)=true:=by simp;omega
  go_enter Tryz.func131,Tryz.ntmps131;go_wp2_with (first
   |(go_at_call 188;refine(qS ha).mono ?_;rintro e w' ⟨rfl,rfl⟩)
   |(go_at_call 189;refine HW.out.mono ?_;rintro e w' ⟨rfl,rfl⟩))
  go_ret2
  refine⟨?_,Step.of _ _⟩;have e1:wrap64 (IntKind.u64.wrap x)=x:=by simp only[wrap64,IntKind.wrap_u64,IntKind.wrap_i64];omega
  simp[e1]
 ·obtain rfl:na=false:=by simp[hn];omega
  have hab:(x.natAbs:Int)=x:=aa
  have hw:=zfo (w:=w.alloc (.cells #[.bool false,.slice A n c] 102)) ha zss;rw[hab]at hw;have HW:=Zh hw;clear hn hw hab;have hx0:0<=x:=aa
  clear zsu;go_enter Tryz.func131,Tryz.ntmps131;go_wp2_with (first
   |(go_at_call 188;refine(qS ha).mono ?_;rintro e w' ⟨rfl,rfl⟩)
   |(go_at_call 189;refine HW.out.mono ?_;rintro e w' ⟨rfl,rfl⟩))
  go_ret2
  refine⟨?_,Step.of _ _⟩;simp
theorem zfp(h:P.underlying t=some (.slice e))(a:Option Addr)(n c:Nat)(w:World):
  (binOp .eql t (.slice a n c) (.slice none 0 0)).run P w= .ok (.bool a.isNone) w:=by
 simp only[binOp];simp[Op.equal,Op.maxDepth,Lib.run_equalIn_slice_nil w 9999 t e a n c 0 0 h]
def zdg(w:World)(e:TypeId)(k:IntKind)(l:List Int)(ev:Ending)(w':World):Prop:=∃B d,ev= .returned (.slice B l.length d)/\Ints w' B e k l/\l.length<=d/\d<=9223372036854775807/\Step w w'
theorem zbR{k:IntKind} :∀u∈l.map (Value.int k),u.oneCell'=true:=by
 intro u hu;obtain⟨x,_,rfl⟩:=List.mem_map.1 hu;rfl
theorem Own.empty(w:World)(e:TypeId):Own (w.alloc (.cells #[] e)) w.heap.size e 1 (some ⟨w.heap.size,0,none⟩) 0 0 []:=
 ⟨af,.inr ⟨w.heap.size,0,#[],rfl,Zr,heap_alloc_new w _,Zr,by simp[maxLen],af,af⟩⟩
theorem zkt(h:Ints w0 A 212 .u32 l)(hl:l.length<=1099511627776)[hx:Ext w0 w]:
  Cq 289 #[.slice A l.length c] w (zdg w 212 .u32 l):=by
 have hq:=zfp (P:=Tryz.prog) Tryz.underlying100;have h1:=h.ext hx
 cases A with
 |none=>
  have h0:l=[]:=by
   rcases Nat.eq_zero_or_pos l.length with h0|h0
   ·exact List.eq_nil_of_length_eq_zero h0
   ·obtain⟨b,o,cs,fr,hh,_⟩:=h1 (by simpa using h0)
    cases hh
  subst h0;go_enter Tryz.func289,Tryz.ntmps289;go_wp2;go_ret;exact⟨none,0,rfl,Ints.nil,af,aa,Step.of _ _⟩
 |some ad=>
  go_enter Tryz.func289,Tryz.ntmps289;go_wp2_with (at_builtin;refine Zp _ rfl _ _ 100 rfl w.heap.size 212 (.int .u32 0) 1 4 Tryz.underlying100 Tryz.infoU32 rfl aa aa _ 0 _ [] rfl (Own.empty w _) _ l.length c (l.map (Value.int .u32)) rfl (Arr.ext h1 Zi) af zbR aa af ?_;intro A1 c1 w1 zsq hg)
  go_ret;have zsB:=zsq.cap;have hxx:Ext w w1:=hg.ext Zi Zr;exact⟨A1,c1,af,zsq.arr,aa,aa,hxx.toStep⟩
def NatV(w:World)(A:Option Addr)(n c:Nat)(z:Int):Prop:=∃l:List Int,n=l.length/\Ints w A 212 .u32 l/\Limbs l/\Tight l/\val l=z/\n<=c/\c<=9223372036854775807
theorem NatV.ext(h:NatV w A n c z)(hx:Ext w w'):NatV w' A n c z:=by
 obtain⟨l,h1,h2,h3⟩:=h;exact⟨l,h1,h2.ext hx,h3⟩
theorem NatV.nil(w:World):NatV w none 0 0 0:=⟨[],rfl,Ints.nil,Limbs.nil,Tight.nil,rfl,Zr,aa⟩
theorem NatV.zero_iff(h:NatV w A n c z):n=0↔z=0:=by
 obtain⟨l,rfl,_,h2,h3,h4,_⟩:=h;have:=zaW h2 h3;constructor
 ·intro hn;have hl:=List.eq_nil_of_length_eq_zero hn;subst hl;simpa[val] using h4.symm
 ·rintro rfl;have:=this.1 h4;subst this;rfl
theorem NatV.nonneg(h:NatV w A n c z):0<=z:=by
 obtain⟨l,rfl,_,h2,h3,h4,_⟩:=h;rw[<-h4];exact QC h2
theorem NatV.len(h:NatV w A n c z)(hz:z<(4294967296:Int)^k):n<=k:=by
 obtain⟨l,rfl,_,h2,h3,h4,_⟩:=h;exact zc9 h2 h3 (by rw[h4];exact hz)
theorem NatV.of_ret{e:Ending}(h:Qk w z e w'):∃B n d,e= .returned (.slice B n d)/\NatV w' B n d z/\Step w w':=by
 obtain⟨B,d,l,rfl,h1,h2,h3,h4,h5,h6,h7⟩:=h;exact⟨B,l.length,d,rfl,⟨l,rfl,h1,h2,h3,h4,h5,h6⟩,h7⟩
theorem IntV.nat{neg:Bool}(h:IntV w neg A n c z):NatV w A n c z.natAbs:=by
 obtain⟨l,h1,h2,h3,h4,h5,h6,h7,h8⟩:=h;exact⟨l,h1,h6,h2,h3,h4,h7,h8⟩
theorem JN(neg:Bool)(h:NatV w0 A n c z)[hx:Ext w0 w]:
  Cq 245 #[.bool neg,.slice A n c] w (zz w (zp neg z)):=by
 obtain⟨l,rfl,h1,h2,h3,rfl,h5,h6⟩:=h;exact JL neg h1 h2 h3 h5 h6
theorem zfq(ha:NatV w0 A n c x)(hb:NatV w1 B k d y)[hx:Ext w0 w][hy:Ext w1 w]:
  Cq 304 #[.slice A n c,.slice B k d] w (zA w (.int .i64 (zo x y))):=by
 obtain⟨l,rfl,h1,h2,h3,rfl,h5,h6⟩:=ha;obtain⟨m,rfl,g1,g2,g3,rfl,g5,g6⟩:=hb;exact zda h1 g1 h2 g2 h3 g3 aa aa
theorem zku(ha:NatV w0 A n c x)(hb:NatV w1 B k d y)(h1:n<=1099511627776)(h2:k<=1099511627776)[hx:Ext w0 w][hy:Ext w1 w]:
  Cq 287 #[.slice A n c,.slice B k d] w (Qk w (x+y)):=by
 obtain⟨l,rfl,a1,a2,a3,rfl,a5,a6⟩:=ha;obtain⟨m,rfl,g1,g2,g3,rfl,g5,g6⟩:=hb;exact zfj a1 g1 a2 g2 h1 h2
theorem zkv(ha:NatV w0 A n c x)(hb:NatV w1 B k d y)(h1:n<=1099511627776)(h2:y<=x)[hx:Ext w0 w][hy:Ext w1 w]:
  Cq 288 #[.slice A n c,.slice B k d] w (Qk w (x-y)):=by
 obtain⟨l,rfl,a1,a2,a3,rfl,a5,a6⟩:=ha;obtain⟨m,rfl,g1,g2,g3,rfl,g5,g6⟩:=hb;refine zdc a1 g1 a2 g2 h1 ?_ h2;rcases Zl l.length m.length with h|h
 ·have:=Jk a2 g2 g3 h;omega
 ·exact h
theorem zfr(h:NatV w0 A n c z)(h2:n<=2)[hx:Ext w0 w]:
  Cq 189 #[.slice A n c] w (Zq w (.int .u64 z)):=by
 obtain⟨l,rfl,a1,a2,a3,rfl,a5,a6⟩:=h;exact zbM (a1.ext hx) a2 h2
theorem zfs(h:NatV w0 A n c z)(h2:n<=1099511627776)[hx:Ext w0 w]:
  Cq 289 #[.slice A n c] w (Qk w z):=by
 obtain⟨l,rfl,a1,a2,a3,rfl,a5,a6⟩:=h;refine(zkt (c:=c) a1 h2).mono ?_;rintro e w' ⟨B,d,rfl,h1,h3,h4,h5⟩;exact⟨B,d,l,rfl,h1,a2,a3,rfl,h3,h4,h5⟩
def zkw(w:World)(q r:Int)(e:Ending)(w':World):Prop:=∃B n d B' n' d',e= .returned (.tuple #[.slice B n d,.slice B' n' d'])/\NatV w' B n d q/\NatV w' B' n' d' r/\Step w w'
theorem zkx(ha:NatV w0 A n c x)(hb:NatV w1 B k d y)(h1:x<18446744073709551616)(hy0:0<y)(hy1:y<18446744073709551616)[hx:Ext w0 w][hy:Ext w1 w]:
  Cq 286 #[.slice A n c,.slice B k d] w (zkw w (x / y) (x%y)):=by
 have hn2:n<=2:=ha.len (k:=2) aa;have hk2:k<=2:=hb.len (k:=2) aa;have hx0:=ha.nonneg;by_cases hlt:x<y
 ·have hc:=qr hlt;have HQ:=Zh (show x / y=0 from Int.ediv_eq_zero_of_lt hx0 hlt);have HR:=Zh (show x%y=x from Int.emod_eq_of_lt hx0 hlt);go_enter Tryz.func286,Tryz.ntmps286;go_wp2_with fail
  refine(zfq ha hb).mono ?_;rintro e w2 ⟨rfl,hs2⟩;go_wp2_with fail
  refine(zfs ha aa).mono ?_;intro e w3 hr;obtain⟨B3,n3,d3,rfl,hn3,hs3⟩:=NatV.of_ret hr;go_wp2;go_ret2
  exact⟨_,_,_,_,_,_,rfl,by rw[HQ.out];exact NatV.nil _,by rw[HR.out];exact hn3,Step.of _ _⟩
 ·have hc:0<=zo x y:=by unfold zo;split;omega;split<;>decide
  have hq0:0<=x / y:=Int.ediv_nonneg hx0 aa;have hq1:x / y<=x:=Int.ediv_le_self y hx0;have hr0:0<=x%y:=Int.emod_nonneg x aa;have hr1:x%y<y:=Int.emod_lt_of_pos x hy0;have hyb:(y==0)=false:=by simp;omega
  go_enter Tryz.func286,Tryz.ntmps286;go_wp2_with fail
  refine(zfq ha hb).mono ?_;rintro e w2 ⟨rfl,hs2⟩;go_wp2_with fail
  refine(zfr ha hn2).mono ?_;rintro e w3 ⟨rfl,rfl⟩;go_wp2_with fail
  refine(zfr hb hk2).mono ?_;rintro e w3 ⟨rfl,rfl⟩;go_wp2_with fail
  have hyn:¬y=0:=aa
  have e1:x.tdiv y=x / y:=Int.tdiv_eq_ediv_of_nonneg hx0;have e2:x.tmod y=x%y:=Int.tmod_eq_emod_of_nonneg hx0;have e3:IntKind.u64.wrap (x / y)=x / y:=by rw[IntKind.wrap_u64];omega
  have e4:IntKind.u64.wrap (x%y)=x%y:=by rw[IntKind.wrap_u64];omega
  go_region_held3 (fun _=>True) (trivial)
   (first
    |(go_at_call_of 246 (Value.int IntKind.u64 (x / y));refine(zaX (x / y) hq0 aa _).mono ?_;intro e w4 hr;obtain⟨B4,n4,d4,rfl,hn4,hs4⟩:=NatV.of_ret hr;clear hr)
    |(go_at_call_of 246 (Value.int IntKind.u64 (x%y));refine(zaX (x%y) hr0 aa _).mono ?_;intro e w5 hr;obtain⟨B5,n5,d5,rfl,hn5,hs5⟩:=NatV.of_ret hr;clear hr))
  go_wp2;go_ret2
  exact⟨_,_,_,_,_,_,rfl,hn4.ext Zi,hn5,Step.of _ _⟩
def zbS(w:World)(q r:Int)(b:Bool)(e:Ending)(w':World):Prop:=∃g B n d g' B' n' d',e= .returned (.tuple #[.agg #[.bool g,.slice B n d],.agg #[.bool g',.slice B' n' d'],.bool b])/\IntV w' g B n d q/\IntV w' g' B' n' d' r/\Step w w'
theorem jg(w w':World)(x0 y0 x1 y1 x2 y2 x3 y3:Value)(T:TypeId)[h:Ext ((((w.alloc (.cells #[x0,y0] T)).alloc (.cells #[x1,y1] T)).alloc (.cells #[x2,y2] T)).alloc (.cells #[x3,y3] T)) w']:
  (w'.cell? ⟨w.heap.size,0,none⟩=some x0/\w'.cell? ⟨w.heap.size,1,none⟩=some y0/\w'.cell? ⟨w.heap.size+1,0,none⟩=some x1/\w'.cell? ⟨w.heap.size+1,1,none⟩=some y1)/\
  (w'.heap[w.heap.size+1+1]? =some (.cells #[x2,y2] T (0,0))/\w'.cell? ⟨w.heap.size+1+1,0,none⟩=some x2/\w'.cell? ⟨w.heap.size+1+1,1,none⟩=some y2/\w'.frozen? ⟨w.heap.size+1+1,0,none⟩=false/\w'.frozen? ⟨w.heap.size+1+1,1,none⟩=false/\w.heap.size+1+1<w'.heap.size)/\
  (w'.heap[w.heap.size+1+1+1]? =some (.cells #[x3,y3] T (0,0))/\w'.cell? ⟨w.heap.size+1+1+1,0,none⟩=some x3/\w'.cell? ⟨w.heap.size+1+1+1,1,none⟩=some y3/\w'.frozen? ⟨w.heap.size+1+1+1,0,none⟩=false/\w'.frozen? ⟨w.heap.size+1+1+1,1,none⟩=false/\w.heap.size+1+1+1<w'.heap.size):=by
 have h2:Ext ((w.alloc (.cells #[x0,y0] T)).alloc (.cells #[x1,y1] T)) w':=Ext.trans Zi h;have h3:Ext (((w.alloc (.cells #[x0,y0] T)).alloc (.cells #[x1,y1] T)).alloc (.cells #[x2,y2] T)) w':=Ext.trans Zi h;exact⟨qp w w' x0 y0 x1 y1 T T,jy w w' (.cells #[x0,y0] T) (.cells #[x1,y1] T) x2 y2 T,Jj (((w.alloc (.cells #[x0,y0] T)).alloc (.cells #[x1,y1] T)).alloc (.cells #[x2,y2] T)) w' _ x3 y3 T af⟩
theorem ZD{o:Obj}(h:w.heap[s]? =some o)(hp:s≠p.block)(u:Value):(w.setCell p u).heap[s]? =some o:=(Below.heap_setCell w p u s hp).trans h
theorem IntV.boxed4{g:Bool}(hz:IntV w g B k d z){s':Nat}(hss:s≠s'){T':TypeId}(hT:212≠T)(hT':212≠T')(q:w.heap[s]? =some (.cells cs T (0,0)))(q':w.heap[s']? =some (.cells cs' T' (0,0)))(u v u' v':Value):
  IntV ((((w.setCell ⟨s,0,none⟩ u).setCell ⟨s,1,none⟩ v).setCell ⟨s',0,none⟩ u').setCell ⟨s',1,none⟩ v') g B k d z:=
 (hz.boxed hT q u v).boxed hT' (ZD (ZD q' (fun h=>hss h.symm) _) (fun h=>hss h.symm) _) u' v'
theorem zft(x y:Int)(hx:0<=x)(hy:y≠0):zp (decide (y<0)) ((x.natAbs:Int) / y.natAbs)=x / y/\(x.natAbs:Int)%y.natAbs=x%y:=by
 have e1:(x.natAbs:Int)=x:=aa
 rw[e1];rcases(aa:(y.natAbs:Int)=y∨(y.natAbs:Int)=-y) with h|h
 ·have:¬y<0:=aa
  rw[h];simp[zp,this]
 ·have:y<0:=aa
  rw[h];simp[zp,this,Int.ediv_neg,Int.emod_neg]
theorem zfu(x y:Int)(hx:x<0)(hy:y≠0)(hr:(x.natAbs:Int)%y.natAbs=0):zp (!decide (y<0)) ((x.natAbs:Int) / y.natAbs)=x / y/\(x.natAbs:Int)%y.natAbs=x%y:=by
 have e1:(x.natAbs:Int)=-x:=aa
 have hd:(y.natAbs:Int)∣x:=by
  have:=Int.dvd_of_emod_eq_zero hr;rw[e1]at this;exact(Int.dvd_neg).1 this
 rw[hr,e1];rcases(aa:(y.natAbs:Int)=y∨(y.natAbs:Int)=-y) with h|h
 ·have:¬y<0:=aa
  rw[h]at hd|-;simp[zp,this,Int.neg_ediv_of_dvd hd,Int.emod_eq_zero_of_dvd hd]
 ·have:y<0:=aa
  rw[h]at hd|-
  have hd':y∣x:=(Int.neg_dvd).1 hd;simp[zp,this,Int.ediv_neg,Int.neg_ediv_of_dvd hd',Int.emod_eq_zero_of_dvd hd']
theorem zfv(x y:Int)(hx:x<0)(hy:y≠0)(hr:(x.natAbs:Int)%y.natAbs≠0):zp (!decide (y<0)) ((x.natAbs:Int) / y.natAbs+1)=x / y/\(y.natAbs:Int)-(x.natAbs:Int)%y.natAbs=x%y:=by
 have hY:0<(y.natAbs:Int):=aa
 generalize hYY:(y.natAbs:Int)=Y at*
 have e1:(x.natAbs:Int)=-x:=aa
 rw[e1]at hr|-
 have h1:=Int.emod_nonneg (-x) ((aa:Y≠0));have h2:=Int.emod_lt_of_pos (-x) hY;have h3:Y*(-x / Y)+-x%Y=-x:=Int.mul_ediv_add_emod (-x) Y;have hq:x / Y=-(-x / Y+1)/\x%Y=Y- -x%Y:=by
  have h4:x=(Y- -x%Y)+Y*(-(-x / Y+1)):=by
   rw[Int.mul_neg,Int.mul_add,Int.mul_one];omega
  constructor
  ·conv=>lhs;rw[h4]
   rw[Int.add_mul_ediv_left _ _ aa,Int.ediv_eq_zero_of_lt aa aa];omega
  ·conv=>lhs;rw[h4]
   rw[Int.add_mul_emod_self_left,Int.emod_eq_of_lt aa aa]
 rcases(aa:Y=y∨Y=-y) with h|h
 ·have:¬y<0:=aa
  rw[<-h];rw[hq.1,hq.2];simp[zp];omega
 ·have hy':y<0:=aa
  have:y=-Y:=aa
  rw[this,Int.ediv_neg,Int.emod_neg,hq.1,hq.2];simp[zp];omega
theorem zky(w:World):NatV (w.alloc (.cells #[.int .u32 1] 212)) (some ⟨w.heap.size,0,none⟩) 1 1 1:=
 ⟨[1],rfl,Arr.new w 212 #[.int .u32 1],Limbs.cons aa Limbs.nil,by simp[Tight],by simp[val],Zr,aa⟩
theorem zfw{nb:Bool}(ha:IntV w0 na A n c x)(hb:IntV w1 nb B k d y)
  (h1:x.natAbs<18446744073709551616) (hy0:y≠0) (h2:y.natAbs<18446744073709551616) [hx:Ext w0 w] [hy:Ext w1 w]:
  Cq 250 #[.agg #[.bool na,.slice A n c],.agg #[.bool nb,.slice B k d]] w (zbS w (x / y) (x%y) true):=by
 have hn2:n<=2:=ha.len (k:=2) aa;have hk2:k<=2:=hb.len (k:=2) aa;have hk0:((k:Int)==0)=false:=by simp;exact fun h=>hy0 (hb.zero_iff.1 h)
 have hna:=ha.neg_eq;have hnb:=hb.neg_eq;have hdn:=zkx (w:=(((w.alloc (.cells #[.bool na,.slice A n c] 102)).alloc (.cells #[.bool nb,.slice B k d] 102)).alloc (.cells #[.bool false,.slice none 0 0] 102)).alloc (.cells #[.bool false,.slice none 0 0] 102)) ha.nat hb.nat aa aa aa;have hr0:=Int.emod_nonneg (x.natAbs:Int) ((aa:(y.natAbs:Int)≠0));have hr1:=Int.emod_lt_of_pos (x.natAbs:Int) ((aa:0<(y.natAbs:Int)))
 have hq0:0<=(x.natAbs:Int) / y.natAbs:=Int.ediv_nonneg aa aa;have hq1:(x.natAbs:Int) / y.natAbs<=x.natAbs:=Int.ediv_le_self _ aa;by_cases zsu:x<0
 ·obtain rfl:na=true:=by simp[hna,zsu]
  by_cases hrz:(x.natAbs:Int)%y.natAbs=0
  ·have HE:=Zh (zfu x y zsu hy0 hrz);rw[<-hnb]at HE;have HR:=Zh hrz;generalize (x.natAbs:Int) / y.natAbs=q at*
   generalize (x.natAbs:Int)%y.natAbs=r at*
   have HD:=Zh hdn;clear hna hnb hdn hrz;go_enter Tryz.func250,Tryz.ntmps250;go_wp2_with fail
   refine(qS hb).mono ?_;rintro e w' ⟨rfl,rfl⟩;go_wp2_with fail
   refine(qS ha).mono ?_;rintro e w' ⟨rfl,rfl⟩;go_wp2_with fail
   refine HD.out.mono ?_;rintro e w2 ⟨B2,n2,d2,B3,n3,d3,rfl,hq,hr,hs2⟩;obtain⟨⟨c1,c2,c3,c4⟩,-,-⟩:=jg w w2 (.bool true) (.slice A n c) (.bool nb) (.slice B k d) (.bool false) (.slice none 0 0) (.bool false) (.slice none 0 0) 102;have hn3:n3=0:=hr.zero_iff.2 HR.out;subst hn3;go_wp2_with fail
   refine(JN _ hq).mono ?_;rintro e w4 ⟨g4,B4,n4,d4,rfl,hz4,hs4⟩;go_wp2_with fail
   refine(JN _ hr).mono ?_;rintro e w5 ⟨g5,B5,n5,d5,rfl,hz5,hs5⟩;obtain⟨-,⟨p0,p1,p2,p3,p4,p5⟩,⟨q0,q1,q2,q3,q4,q5⟩⟩:=jg w w5 (.bool true) (.slice A n c) (.bool nb) (.slice B k d) (.bool false) (.slice none 0 0) (.bool false) (.slice none 0 0) 102;have P0:=Zh p0;have Q0:=Zh q0;clear p0 q0;go_wp2;refine bodyPost_ret (v:= .tuple #[.agg #[.bool g4,.slice B4 n4 d4],.agg #[.bool g5,.slice B5 n5 d5],.bool true]) (by simp[results,Tryz.results250,go_sem,p1,p2,q1,q2]) rfl ⟨_,_,_,_,_,_,_,_,rfl,?_,?_,Step.of _ _⟩
   ·rw[<-HE.out.1];exact(hz4.ext hs5.ext).boxed4 aa ac ac P0.out Q0.out _ _ _ _
   ·rw[<-HE.out.2];exact hz5.boxed4 aa ac ac P0.out Q0.out _ _ _ _
  ·have HE:=Zh (zfv x y zsu hy0 hrz);rw[<-hnb]at HE;have HR:=Zh hrz;generalize (x.natAbs:Int) / y.natAbs=q at*
   generalize (x.natAbs:Int)%y.natAbs=r at*
   have HD:=Zh hdn;clear hna hnb hdn hrz;go_enter Tryz.func250,Tryz.ntmps250;go_wp2_with fail
   refine(qS hb).mono ?_;rintro e w' ⟨rfl,rfl⟩;go_wp2_with fail
   refine(qS ha).mono ?_;rintro e w' ⟨rfl,rfl⟩;go_wp2_with fail
   refine HD.out.mono ?_;rintro e w2 ⟨B2,n2,d2,B3,n3,d3,rfl,hq,hr,hs2⟩;obtain⟨⟨c1,c2,c3,c4⟩,-,-⟩:=jg w w2 (.bool true) (.slice A n c) (.bool nb) (.slice B k d) (.bool false) (.slice none 0 0) (.bool false) (.slice none 0 0) 102;have hn3:0<n3:=Nat.pos_of_ne_zero fun h=>HR.out (hr.zero_iff.1 h)
   have zxN:n2<=2:=hq.len (k:=2) aa;have zxO:decide ((0:Int)<(n3:Int))=true:=by simpa using hn3
   go_wp2_with fail
   refine(zku hq (zky w2) aa aa).mono ?_;intro e w6 hr6;obtain⟨B6,n6,d6,rfl,hn6,hs6⟩:=NatV.of_ret hr6;clear hr6;go_wp2_with fail
   refine(zkv hb.nat hr aa aa).mono ?_;intro e w7 hr7;obtain⟨B7,n7,d7,rfl,hn7,hs7⟩:=NatV.of_ret hr7;clear hr7;go_wp2_with fail
   refine(JN _ hn6).mono ?_;rintro e w4 ⟨g4,B4,n4,d4,rfl,hz4,hs4⟩;go_wp2_with fail
   refine(JN _ hn7).mono ?_;rintro e w5 ⟨g5,B5,n5,d5,rfl,hz5,hs5⟩;obtain⟨-,⟨p0,p1,p2,p3,p4,p5⟩,⟨q0,q1,q2,q3,q4,q5⟩⟩:=jg w w5 (.bool true) (.slice A n c) (.bool nb) (.slice B k d) (.bool false) (.slice none 0 0) (.bool false) (.slice none 0 0) 102;have P0:=Zh p0;have Q0:=Zh q0;clear p0 q0;go_wp2;refine bodyPost_ret (v:= .tuple #[.agg #[.bool g4,.slice B4 n4 d4],.agg #[.bool g5,.slice B5 n5 d5],.bool true]) (by simp[results,Tryz.results250,go_sem,p1,p2,q1,q2]) rfl ⟨_,_,_,_,_,_,_,_,rfl,?_,?_,Step.of _ _⟩
   ·rw[<-HE.out.1];exact(hz4.ext hs5.ext).boxed4 aa ac ac P0.out Q0.out _ _ _ _
   ·rw[<-HE.out.2];exact hz5.boxed4 aa ac ac P0.out Q0.out _ _ _ _
 ·obtain rfl:na=false:=by simp[hna];omega
  ·have HE:=Zh (zft x y aa hy0);rw[<-hnb]at HE;generalize (x.natAbs:Int) / y.natAbs=q at*
   generalize (x.natAbs:Int)%y.natAbs=r at*
   have HD:=Zh hdn;clear hna hnb hdn;go_enter Tryz.func250,Tryz.ntmps250;go_wp2_with fail
   refine(qS hb).mono ?_;rintro e w' ⟨rfl,rfl⟩;go_wp2_with fail
   refine(qS ha).mono ?_;rintro e w' ⟨rfl,rfl⟩;go_wp2_with fail
   refine HD.out.mono ?_;rintro e w2 ⟨B2,n2,d2,B3,n3,d3,rfl,hq,hr,hs2⟩;obtain⟨⟨c1,c2,c3,c4⟩,-,-⟩:=jg w w2 (.bool false) (.slice A n c) (.bool nb) (.slice B k d) (.bool false) (.slice none 0 0) (.bool false) (.slice none 0 0) 102;go_wp2_with fail
   refine(JN _ hq).mono ?_;rintro e w4 ⟨g4,B4,n4,d4,rfl,hz4,hs4⟩;go_wp2_with fail
   refine(JN _ hr).mono ?_;rintro e w5 ⟨g5,B5,n5,d5,rfl,hz5,hs5⟩;obtain⟨-,⟨p0,p1,p2,p3,p4,p5⟩,⟨q0,q1,q2,q3,q4,q5⟩⟩:=jg w w5 (.bool false) (.slice A n c) (.bool nb) (.slice B k d) (.bool false) (.slice none 0 0) (.bool false) (.slice none 0 0) 102;have P0:=Zh p0;have Q0:=Zh q0;clear p0 q0;go_wp2;refine bodyPost_ret (v:= .tuple #[.agg #[.bool g4,.slice B4 n4 d4],.agg #[.bool g5,.slice B5 n5 d5],.bool true]) (by simp[results,Tryz.results250,go_sem,p1,p2,q1,q2]) rfl ⟨_,_,_,_,_,_,_,_,rfl,?_,?_,Step.of _ _⟩
   ·rw[<-HE.out.1];exact(hz4.ext hs5.ext).boxed4 aa ac ac P0.out Q0.out _ _ _ _
   ·rw[<-HE.out.2];exact hz5.boxed4 aa ac ac P0.out Q0.out _ _ _ _
theorem j3:(Tryz.prog.info? 102).map (fun i=>(i.zero,i.size,i.bytes))=some (some (.agg #[.bool false,.slice none 0 0]),2,32):=ai
theorem zad:(Tryz.prog.info? 95).map (fun i=>(i.zero,i.size,i.bytes))=some (some (.slice none 0 0),1,24):=ai
theorem zfx:(Tryz.prog.info? 48).map (fun i=>(i.zero,i.size,i.bytes))=some (some (.slice none 0 0),1,24):=ai
theorem qb:(Tryz.prog.info? 2).map (fun i=>(i.zero,i.size,i.bytes))=some (some (.int .i64 0),1,8):=ai
theorem JO:(Tryz.prog.info? 3).map (fun i=>(i.zero,i.size,i.bytes))=some (some (.int .i64 0),1,8):=ai
theorem qe:(Tryz.prog.info? 34).map (fun i=>(i.zero,i.size,i.bytes))=some (some (.slice none 0 0),1,24):=ai
def VRow(w:World)(g:Nat)(e:TypeId)(vs:List Value):Prop:=w.heap[g]? =some (.cells vs.toArray e (0,0))
section
variable {w w':World} {g:Nat} {e:TypeId} {vs:List Value}
theorem VRow.lt(h:VRow w g e vs):g<w.heap.size:=zi h
theorem VRow.cell(h:VRow w g e vs){u:Value}(hu:vs[i]? =some u):w.cell? ⟨g,i,none⟩=some u:=by
 rw[cell_of_row w g i _ e (0,0) h];simpa using hu
theorem VRow.frozen(h:VRow w g e vs)(i:Nat):w.frozen? ⟨g,i,none⟩=false:=by
 unfold VRow at h;simp[World.frozen?,h]
theorem VRow.set(h:VRow w g e vs)(i:Nat)(u:Value):VRow (w.setCell ⟨g,i,none⟩ u) g e (vs.set i u):=by
 unfold VRow at h|-
 rw[ze9 h];simp
theorem VRow.ext(h:VRow w g e vs)(hx:Ext w w'):VRow w' g e vs:=zg hx h
theorem VRow.far(h:VRow w g e vs)(hp:g≠p.block)(u:Value):VRow (w.setCell p u) g e vs:=(Below.heap_setCell w p u g hp).trans h
theorem VRow.new(w:World)(e:TypeId)(cs:Array Value):VRow (w.alloc (.cells cs e)) w.heap.size e cs.toList:=heap_alloc_new w _
theorem VRow.arr(h:VRow w g e vs):Arr w (some ⟨g,0,none⟩) e vs:=fun _=>⟨g,0,_,_,rfl,h,fun j u hu=>by simpa using hu⟩
theorem VRow.drewN(h:VRow w g e vs)(n:Nat):VRow (w.drewN n) g e vs:=h
end
def zH(z:Array Value)(n:Nat):Array Value:=madeCells z n
theorem ZH{z:Value}{size by_:Nat}(ht:P.underlying t=some (.slice e))(hi:(P.info? e).map (fun i=>(i.zero,i.size,i.bytes))=some (some z,size,by_))(h8:by_<=128)
  (n:Int) (h0:0<=n) (h1:n<=1099511627776) (w:World):
  (Instr.makeSlice t (.int .i64 n) (.int .i64 n)).run P w= .ok (.slice (some ⟨w.heap.size,0,none⟩) n.toNat n.toNat) (w.alloc (.cells (zH z.cells (n.toNat*size)) e)):=by
 obtain⟨i,hi1,hz,hs,hb⟩:=info_parts hi;have hb':(i.bytes:Int)*n<=128*n:=Int.mul_le_mul_of_nonneg_right aa h0;rw[run_make (P:=P) w t e i z ht hi1 hz .i64 .i64 n n h0 (Int.le_refl _) aa aa,hs];rfl
theorem JP(z:Array Value)(n:Nat):(zH z n).toList.length=n:=by simp[zH,size_madeCells]
theorem Qo(z:Value)(n:Nat):(zH #[z] n).toList=List.replicate n z:=toList_madeCells_one z n
theorem zbT(z:Array Value)(n i:Nat)(hi:i<n)(hz:0<z.size):(zH z n).toList[i]? =some (z[i%z.size]'(Nat.mod_lt _ hz)):=by
 simp[zH,madeCells,hi,Nat.mod_lt _ hz]
def qB(f:FuncId):Prop:=∀(args:Array Value)(w:World),(callFunc f args).run Tryz.prog w= .ok (.enter f args) w
theorem JQ {f : FuncId} {fn : Func} (hf : Tryz.prog.funcs[f]? = some fn) (zwo : (fn.name == "runtime.NumGoroutine") = false) (hb : fn.body.isNone = false) : qB f := fun args w => by
 have h1 : fn.name ≠ "runtime.NumGoroutine" := by simpa using zwo
 have h2:¬fn.body=none:=by intro h;rw[h]at hb;simp at hb
 simp[callFunc,hf,h1,h2]
def IntsV(w:World)(A:Option Addr)(zs:List Int):Prop:=
 ∃vs:List Value,vs.length=zs.length*2/\Arr w A 102 vs/\∀(i:Nat)(z:Int),zs[i]? =some z->∃g B n c,vs[i*2]? =some (.bool g)/\vs[i*2+1]? =some (.slice B n c)/\IntV w g B n c z
theorem IntsV.ext(h:IntsV w A zs)(hx:Ext w w'):IntsV w' A zs:=by
 obtain⟨vs,h1,h2,h3⟩:=h;refine⟨vs,h1,h2.ext hx,fun i z hz=>?_⟩;obtain⟨g,B,n,c,a1,a2,a3⟩:=h3 i z hz;exact⟨g,B,n,c,a1,a2,a3.ext hx⟩
theorem IntsV.grow(h:IntsV w A zs)(hg:Grow ze e w w')(h1:102≠e)(h2:212≠e):IntsV w' A zs:=by
 obtain⟨vs,a1,a2,a3⟩:=h;refine⟨vs,a1,a2.grow hg h1,fun i z hz=>?_⟩;obtain⟨g,B,n,c,b1,b2,b3⟩:=a3 i z hz;exact⟨g,B,n,c,b1,b2,b3.grow hg h2⟩
theorem IntsV.at_(h:IntsV w A zs)(hi:i<zs.length):
  ∃b o g B n c,A=some ⟨b,o,none⟩/\w.cell? ⟨b,o+i*2,none⟩=some (.bool g)/\w.cell? ⟨b,o+i*2+1,none⟩=some (.slice B n c)/\IntV w g B n c zs[i]/\b<w.heap.size:=by
 obtain⟨vs,a1,a2,a3⟩:=h;obtain⟨g,B,n,c,b1,b2,b3⟩:=a3 i zs[i] (by simp[hi]);obtain⟨b,o,rfl,c1,c2⟩:=a2.at_ b1;obtain⟨b',o',hh,d1,d2⟩:=a2.at_ b2;injection hh with hh
 injection hh with h1 h2
 subst h1 h2;exact⟨b,o,g,B,n,c,rfl,c1,by rw[Nat.add_assoc];exact d1,b3,c2⟩
theorem IntsV.nil(w:World)(A:Option Addr):IntsV w A []:=⟨[],rfl,Arr.nil,fun i z hz=>by simp at hz⟩
def MatV(w:World)(A:Option Addr)(m:List (List Int)):Prop:=
 ∃vs:List Value,vs.length=m.length/\Arr w A 95 vs/\∀(i:Nat)(r:List Int),m[i]? =some r->∃B c,vs[i]? =some (.slice B r.length c)/\IntsV w B r/\r.length<=c/\c<=9223372036854775807
theorem MatV.ext(h:MatV w A m)(hx:Ext w w'):MatV w' A m:=by
 obtain⟨vs,h1,h2,h3⟩:=h;refine⟨vs,h1,h2.ext hx,fun i z hz=>?_⟩;obtain⟨B,c,a1,a2,a3⟩:=h3 i z hz;exact⟨B,c,a1,a2.ext hx,a3⟩
theorem MatV.grow(h:MatV w A m)(hg:Grow ze e w w')(h0:95≠e)(h1:102≠e)(h2:212≠e):MatV w' A m:=by
 obtain⟨vs,a1,a2,a3⟩:=h;refine⟨vs,a1,a2.grow hg h0,fun i z hz=>?_⟩;obtain⟨B,c,b1,b2,b3⟩:=a3 i z hz;exact⟨B,c,b1,b2.grow hg h1 h2,b3⟩
theorem MatV.at_(h:MatV w A m)(hi:m[i]? =some r):
  ∃b o B c,A=some ⟨b,o,none⟩/\w.cell? ⟨b,o+i,none⟩=some (.slice B r.length c)/\IntsV w B r/\r.length<=c/\c<=9223372036854775807/\b<w.heap.size:=by
 obtain⟨vs,a1,a2,a3⟩:=h;obtain⟨B,c,b1,b2,b3,b4⟩:=a3 i r hi;obtain⟨b,o,hA,hc,hb⟩:=a2.at_ b1;exact⟨b,o,B,c,hA,hc,b2,b3,b4,hb⟩
def Mat64(w:World)(A:Option Addr)(m:List (List Int)):Prop:=
 ∃vs:List Value,vs.length=m.length/\Arr w A 34 vs/\∀(i:Nat)(r:List Int),m[i]? =some r->∃B c,vs[i]? =some (.slice B r.length c)/\Ints w B 2 .i64 r/\r.length<=c/\c<=9223372036854775807
theorem Mat64.ext(h:Mat64 w A m)(hx:Ext w w'):Mat64 w' A m:=by
 obtain⟨vs,h1,h2,h3⟩:=h;refine⟨vs,h1,h2.ext hx,fun i z hz=>?_⟩;obtain⟨B,c,a1,a2,a3⟩:=h3 i z hz;exact⟨B,c,a1,a2.ext hx,a3⟩
theorem Mat64.grow(h:Mat64 w A m)(hg:Grow ze e w w')(h0:34≠e)(h1:2≠e):Mat64 w' A m:=by
 obtain⟨vs,a1,a2,a3⟩:=h;refine⟨vs,a1,a2.grow hg h0,fun i z hz=>?_⟩;obtain⟨B,c,b1,b2,b3⟩:=a3 i z hz;exact⟨B,c,b1,b2.grow hg h1,b3⟩
theorem Mat64.at_(h:Mat64 w A m)(hi:m[i]? =some r):
  ∃b o B c,A=some ⟨b,o,none⟩/\w.cell? ⟨b,o+i,none⟩=some (.slice B r.length c)/\Ints w B 2 .i64 r/\r.length<=c/\c<=9223372036854775807/\b<w.heap.size:=by
 obtain⟨vs,a1,a2,a3⟩:=h;obtain⟨B,c,b1,b2,b3,b4⟩:=a3 i r hi;obtain⟨b,o,hA,hc,hb⟩:=a2.at_ b1;exact⟨b,o,B,c,hA,hc,b2,b3,b4,hb⟩
def IntsA(w:World)(A:Option Addr)(l:List Int):Prop:=∃te,Ints w A te .i64 l
theorem IntsA.ext(h:IntsA w A l)(hx:Ext w w'):IntsA w' A l:=by
 obtain⟨te,h⟩:=h;exact⟨te,h.ext hx⟩
theorem IntsA.at_(h:IntsA w A l)(hi:i<l.length):∃b o x,A=some ⟨b,o,none⟩/\l[i]? =some x/\w.cell? ⟨b,o+i,none⟩=some (.int .i64 x)/\b<w.heap.size:=by
 obtain⟨te,h⟩:=h;exact h.at_ hi
def MatA(w:World)(A:Option Addr)(m:List (List Int)):Prop:=
 ∃(te:TypeId) (vs:List Value),vs.length=m.length/\Arr w A te vs/\∀(i:Nat)(r:List Int),m[i]? =some r->∃B c,vs[i]? =some (.slice B r.length c)/\IntsA w B r/\r.length<=c/\c<=9223372036854775807
theorem Mat64.a(h:Mat64 w A m):MatA w A m:=by
 obtain⟨vs,h1,h2,h3⟩:=h;refine⟨_,vs,h1,h2,fun i z hz=>?_⟩;obtain⟨B,c,a1,a2,a3⟩:=h3 i z hz;exact⟨B,c,a1,⟨_,a2⟩,a3⟩
theorem MatA.ext(h:MatA w A m)(hx:Ext w w'):MatA w' A m:=by
 obtain⟨te,vs,h1,h2,h3⟩:=h;refine⟨te,vs,h1,h2.ext hx,fun i z hz=>?_⟩;obtain⟨B,c,a1,a2,a3⟩:=h3 i z hz;exact⟨B,c,a1,a2.ext hx,a3⟩
theorem MatA.at_(h:MatA w A m)(hi:m[i]? =some r):
  ∃b o B c,A=some ⟨b,o,none⟩/\w.cell? ⟨b,o+i,none⟩=some (.slice B r.length c)/\IntsA w B r/\r.length<=c/\c<=9223372036854775807/\b<w.heap.size:=by
 obtain⟨te,vs,a1,a2,a3⟩:=h;obtain⟨B,c,b1,b2,b3,b4⟩:=a3 i r hi;obtain⟨b,o,hA,hc,hb⟩:=a2.at_ b1;exact⟨b,o,B,c,hA,hc,b2,b3,b4,hb⟩
def StV(w:World)(A:Option Addr)(s:List (List (List Int))):Prop:=
 ∃vs:List Value,vs.length=s.length/\Arr w A 48 vs/\∀(i:Nat)(m:List (List Int)),s[i]? =some m->∃B c,vs[i]? =some (.slice B m.length c)/\MatV w B m/\m.length<=c/\c<=9223372036854775807
theorem StV.ext{s:List (List (List Int))}(h:StV w A s)(hx:Ext w w'):StV w' A s:=by
 obtain⟨vs,h1,h2,h3⟩:=h;refine⟨vs,h1,h2.ext hx,fun i z hz=>?_⟩;obtain⟨B,c,a1,a2,a3⟩:=h3 i z hz;exact⟨B,c,a1,a2.ext hx,a3⟩
theorem StV.at_{s:List (List (List Int))}(h:StV w A s)(hi:s[i]? =some m):
  ∃b o B c,A=some ⟨b,o,none⟩/\w.cell? ⟨b,o+i,none⟩=some (.slice B m.length c)/\MatV w B m/\m.length<=c/\c<=9223372036854775807/\b<w.heap.size:=by
 obtain⟨vs,a1,a2,a3⟩:=h;obtain⟨B,c,b1,b2,b3,b4⟩:=a3 i m hi;obtain⟨b,o,hA,hc,hb⟩:=a2.at_ b1;exact⟨b,o,B,c,hA,hc,b2,b3,b4,hb⟩
section
variable {w w' w2:World} {ze:Nat} {e:TypeId}
theorem Grow.trans(h:Grow ze e w w')(h':Ext w' w2)(hb:ze<=w.heap.size):Grow ze e w w2:=
 ⟨h.below.trans (h'.below.mono (Nat.le_trans hb h.below.size)),fun k hk hne=>(h'.below.block k (Nat.lt_of_lt_of_le hk h.below.size)).trans (h.typed k hk hne)⟩
theorem Grow.alloc(h:Grow ze e w w')(hb:ze<=w.heap.size)(o:Obj):Grow ze e w (w'.alloc o):=h.trans Zi hb
theorem Grow.setNew(h:Grow ze e w w')(hp:w.heap.size<=p.block)(hb:ze<=w.heap.size)(u:Value):Grow ze e w (w'.setCell p u):=
 ⟨h.below.setCell (Nat.le_trans hb hp) u,fun k hk hne=>(Below.heap_setCell w' p u k aa).trans (h.typed k hk hne)⟩
theorem Grow.setOld(h:Grow ze e w w')(hg:w.heap[g]? =some (.cells cs e fr))(hb:ze<=g)(hp:p.block=g)(u:Value):Grow ze e w (w'.setCell p u):=
 ⟨h.below.setCell aa u,fun k hk hne=>(Below.heap_setCell w' p u k (fun hh=>by rw[hp]at hh;subst hh;exact hne _ _ hg)).trans (h.typed k hk hne)⟩
end
def tab(F:Nat->Nat->Int)(zc cols:Nat):List (List Int):=(List.range zc).map fun i=>(List.range cols).map fun j=>F i j
theorem QT(F:Nat->Nat->Int)(zc cols i:Nat)(hi:i<zc):(tab F zc cols)[i]? =some ((List.range cols).map fun j=>F i j):=by simp[tab,hi]
theorem zr(F:Nat->Nat->Int)(zc cols:Nat):(tab F zc cols).length=zc:=by simp[tab]
def zaZ(w:World)(m:List (List Int))(e:Ending)(w':World):Prop:=∃A c,e= .returned (.slice A m.length c)/\MatV w' A m/\m.length<=c/\c<=9223372036854775807/\Step w w'
def Heads(w:World)(G:Nat)(F:Nat->Nat->Int)(zc cols k:Nat):Prop:=
 ∃hd:List Value,VRow w G 95 hd/\hd.length=zc/\(∀i,i<k->∃B,hd[i]? =some (.slice B cols cols)/\IntsV w B ((List.range cols).map fun j=>F i j))/\∀i,k<=i->i<zc->hd[i]? =some (.slice none 0 0)
def Cells2(w:World)(g:Nat)(F:Nat->Int)(cols q:Nat):Prop:=
 ∃cs:List Value,VRow w g 102 cs/\cs.length=cols*2/\(∀j,j<q->∃s B n c,cs[j*2]? =some (.bool s)/\cs[j*2+1]? =some (.slice B n c)/\IntV w s B n c (F j))/\∀j,q<=j->j<cols->cs[j*2]? =some (.bool false)/\cs[j*2+1]? =some (.slice none 0 0)
theorem Heads.made(w:World)(F:Nat->Nat->Int)(zc cols:Nat):Heads (w.alloc (.cells (zH #[.slice none 0 0] (zc*1)) 95)) w.heap.size F zc cols 0:=by
 refine⟨_,VRow.new w _ _,?_,fun i hi=>absurd hi aa,fun i _ hi=>?_⟩
 ·rw[JP];omega
 ·rw[Qo,Nat.mul_one,List.getElem?_replicate];simp[hi]
theorem Cells2.made(w:World)(F:Nat->Int)(cols:Nat):Cells2 (w.alloc (.cells (zH #[.bool false,.slice none 0 0] (cols*2)) 102)) w.heap.size F cols 0:=by
 refine⟨_,VRow.new w _ _,JP _ _,fun i hi=>absurd hi aa,fun j _ hj=>⟨?_,?_⟩⟩
 ·rw[zbT _ _ _ aa af];simp
 ·rw[zbT _ _ _ aa af];simp
theorem Cells2.full(h:Cells2 w g F cols cols):IntsV w (some ⟨g,0,none⟩) ((List.range cols).map F):=by
 obtain⟨cs,h1,h2,h3,h4⟩:=h;refine⟨cs,by simp[h2],h1.arr,fun i z hz=>?_⟩;have hi:i<cols:=by
  rcases Zl i cols with hi|hi
  ·exact hi
  ·rw[List.getElem?_eq_none (by simpa using hi)]at hz;cases hz
 simp[hi]at hz;subst hz;exact h3 i hi
theorem Cells2.ext(h:Cells2 w g F cols q)(hx:Ext w w'):Cells2 w' g F cols q:=by
 obtain⟨cs,h1,h2,h3,h4⟩:=h;refine⟨cs,h1.ext hx,h2,fun j hj=>?_,h4⟩;obtain⟨s,B,n,c,a1,a2,a3⟩:=h3 j hj;exact⟨s,B,n,c,a1,a2,a3.ext hx⟩
theorem Cells2.put(h:Cells2 w g F cols q)(hq:q<cols){s:Bool}(hz:IntV w s B n c (F q)):
  Cells2 ((w.setCell ⟨g,q*2,none⟩ (.bool s)).setCell ⟨g,q*2+1,none⟩ (.slice B n c)) g F cols (q+1):=by
 obtain⟨cs,h1,h2,h3,h4⟩:=h;have key:∀{s':Bool}{B':Option Addr}{n' c':Nat}{z:Int},IntV w s' B' n' c' z->IntV ((w.setCell ⟨g,q*2,none⟩ (.bool s)).setCell ⟨g,q*2+1,none⟩ (.slice B n c)) s' B' n' c' z:=fun hz'=>
  (hz'.setCell (p:=⟨g,q*2,none⟩) h1 ac _).setCell (p:=⟨g,q*2+1,none⟩) (h1.set _ _) ac _
 refine⟨_,(h1.set (q*2) (.bool s)).set (q*2+1) (.slice B n c),by simp[h2],fun j hj=>?_,fun j hj1 hj2=>?_⟩
 ·rcases Zl j q with hjq|hjq
  ·obtain⟨s',B',n',c',a1,a2,a3⟩:=h3 j hjq;refine⟨s',B',n',c',?_,?_,key a3⟩
   ·rw[getElem?_set_ne aa,getElem?_set_ne aa];exact a1
   ·rw[getElem?_set_ne aa,getElem?_set_ne aa];exact a2
  ·obtain rfl:j=q:=aa
   refine⟨s,B,n,c,?_,?_,key hz⟩
   ·rw[getElem?_set_ne aa,getElem?_set_self aa]
   ·rw[getElem?_set_self (by rw[List.length_set];omega)]
 ·obtain⟨a1,a2⟩:=h4 j aa hj2;constructor
  ·rw[getElem?_set_ne aa,getElem?_set_ne aa];exact a1
  ·rw[getElem?_set_ne aa,getElem?_set_ne aa];exact a2
theorem Cells2.cells(h:Cells2 w g F cols q)(hq:q<cols):
  w.cell? ⟨g,q*2,none⟩=some (.bool false)/\w.cell? ⟨g,q*2+1,none⟩=some (.slice none 0 0)/\w.frozen? ⟨g,q*2,none⟩=false/\w.frozen? ⟨g,q*2+1,none⟩=false/\g<w.heap.size:=by
 obtain⟨cs,h1,h2,h3,h4⟩:=h;obtain⟨a1,a2⟩:=h4 q Zr hq;exact⟨h1.cell a1,h1.cell a2,h1.frozen _,h1.frozen _,h1.lt⟩
theorem Cells2.far(h:Cells2 w g F cols q){e':TypeId}(hp:w.heap[p.block]? =some (.cells cs' e' fr))(hne:102≠e')(zwp:212≠e')(u:Value):Cells2 (w.setCell p u) g F cols q:=by
 obtain⟨cs,h1,h2,h3,h4⟩:=h;have hg:g≠p.block:=fun hh=>by
  rw[<-hh]at hp;unfold VRow at h1;rw[h1]at hp;injection hp with hp
  injection hp with _ he
  exact hne he
 refine⟨cs,h1.far hg u,h2,fun j hj=>?_,h4⟩;obtain⟨s',B',n',c',a1,a2,a3⟩:=h3 j hj;exact⟨s',B',n',c',a1,a2,a3.setCell hp zwp u⟩
theorem ZE(w:World)(p:Addr)(u:Value):(w.setCell p u).heap.size=w.heap.size:=by simp[World.setCell]
set_option maxRecDepth 10000 in
theorem zkz(f:FuncId)(caps:Array Value)(zc cols:Nat)(h1:zc<=1000000)(h2:cols<=1000000)(hf:qB f)(F:Nat->Nat->Int)
  (H:∀(i j:Nat)(W:World),i<zc->j<cols->Ext w W->Cq f (#[.int .i64 i,.int .i64 j]++caps) W (zz W (F i j))):
  Cq 183 #[.int .i64 zc,.int .i64 cols,.func (.func f) #[] caps] w (zaZ w (tab F zc cols)):=by
 have hmk:=ZH (P:=Tryz.prog) Tryz.underlying48 zad aa (zc:Int) aa aa;have zs0:=ZH (P:=Tryz.prog) Tryz.underlying95 j3 aa (cols:Int) aa aa;have HH:=Zh H;have HF:=Zh hf;clear H hf;go_enter Tryz.func183,Tryz.ntmps183;go_wp2;go_loopw [8,9,14] (fun _ _ i wr=>∃k:Nat,k<=zc/\i= .int .i64 k/\Heads wr w.heap.size F zc cols k/\Ext w wr) (fun _ _ i _=>zc-(intOf i).toNat)
 case atStart=>exact⟨0,aa,rfl,by simpa[Value.cells] using Heads.made w F zc cols,Zi⟩
 case round=>
  obtain⟨k,hk,rfl,hH,hxr⟩:=hrel;by_cases zsM:k<zc
  ·obtain⟨hd,v1,v2,v3,v4⟩:=hH;have hc1:=v1.cell (v4 k Zr zsM);have hc2:=v1.frozen k;have hsz:=v1.lt;obtain⟨wo,rfl⟩:∃wo:World,wo=wr:=⟨_,rfl⟩;have V2:=Zh v2;have V3:=Zh v3;have V4:=Zh v4;clear v2 v3 v4;go_wp2;go_loopw [9,27] (fun _ j wr=>∃q:Nat,q<=cols/\j= .int .i64 q/\Grow w.heap.size 95 wo wr/\VRow wr w.heap.size 95 (hd.set k (.slice (some ⟨wo.heap.size,0,none⟩) cols cols))/\Cells2 wr wo.heap.size (F k) cols q/\Ext w wr) (fun _ j _=>cols-(intOf j).toNat)
   case atStart=>
    refine⟨0,aa,rfl,?_,?_,?_,?_⟩
    ·exact((Grow.refl _ _ _).setOld (p:=⟨w.heap.size,k,none⟩) v1 Zr rfl _).alloc hxr.size _
    ·exact(v1.set _ _).ext Zi
    ·have:=Cells2.made (wo.setCell ⟨w.heap.size,k,none⟩ (.slice (some ⟨wo.heap.size,0,none⟩) cols cols)) (F k) cols;rwa [ZE]at this
    ·exact Zi
   case round=>
    obtain⟨q,hq,rfl,hG,hV,hC,hxq⟩:=hrel;by_cases hlt:q<cols
    ·have hkl:k<hd.length:=by have:=V2.out;omega
     have zsr:wr.cell? ⟨w.heap.size,k,none⟩=some (.slice (some ⟨wo.heap.size,0,none⟩) cols cols):=hV.cell (by rw[getElem?_set_self hkl]);obtain⟨c1,c2,c3,c4,c5⟩:=hC.cells hlt;go_wp2;have hcf:=HF.out;unfold qB at hcf;have hne:w.heap.size≠wo.heap.size:=aa
     have ztm:(hd.set k (.slice (some ⟨wo.heap.size,0,none⟩) cols cols))[k]? =some (.slice (some ⟨wo.heap.size,0,none⟩) cols cols):=by rw[getElem?_set_self hkl]
     have HN:=Zh hne;have HS:=Zh ztm;clear hne ztm;go_region_held3 (fun w'=>w'.cell? ⟨w.heap.size,k,none⟩=some (.slice (some ⟨wo.heap.size,0,none⟩) cols cols))
      (first
       |exact(hV.ext Zi).cell HS.out
       |exact(((hV.ext Zi).far (p:=⟨wo.heap.size,q*2,none⟩) HN.out _).far (p:=⟨wo.heap.size,q*2+1,none⟩) HN.out _).cell HS.out)
      (first
       |(refine(HH.out _ _ _ zsM hlt Zi).mono ?_;rintro e w2 ⟨g,B,k',d,rfl,hz,hs2⟩;obtain⟨d1,d2,d3,d4,d5⟩:=(hC.ext (Zi:Ext wr w2)).cells hlt))
     go_wp2;refine⟨⟨q+1,aa,by go_num,?_,?_,?_,?_⟩,by simp[intOf]<;>omega⟩
     ·exact((hG.trans (Zi:Ext wr w2) hxr.size).setNew (p:=⟨wo.heap.size,q*2,none⟩) Zr hxr.size _).setNew (p:=⟨wo.heap.size,q*2+1,none⟩) Zr hxr.size _
     ·exact((hV.ext (Zi:Ext wr w2)).far (p:=⟨wo.heap.size,q*2,none⟩) HN.out _).far (p:=⟨wo.heap.size,q*2+1,none⟩) HN.out _
     ·exact(hC.ext (Zi:Ext wr w2)).put hlt hz
     ·exact((Zi:Ext w w2).setCell (p:=⟨wo.heap.size,q*2,none⟩) hxr.size _).setCell (p:=⟨wo.heap.size,q*2+1,none⟩) hxr.size _
    ·obtain rfl:q=cols:=aa
     have ztr:=hC.full;go_wp2;refine⟨⟨k+1,aa,by go_num,⟨_,hV,by rw[List.length_set];exact V2.out,fun i hi=>?_,fun i hi1 hi2=>?_⟩,hxq⟩,by simp[intOf]<;>omega⟩
     ·have hkl:k<hd.length:=by have:=V2.out;omega
      rcases Zl i k with h|h
      ·obtain⟨B,b1,b2⟩:=V3.out i h;exact⟨B,by rw[getElem?_set_ne aa];exact b1,b2.grow hG ac ac⟩
      ·obtain rfl:i=k:=aa
       exact⟨_,by rw[getElem?_set_self hkl],ztr⟩
     ·rw[getElem?_set_ne aa];exact V4.out i aa hi2
  ·obtain rfl:k=zc:=aa
   have HHd:=Zh hH;clear hH;go_wp2;go_ret;obtain⟨hd,v1,v2,v3,v4⟩:=HHd.out;refine⟨_,k,by rw[zr];rfl,⟨hd,by rw[v2,zr],v1.arr,fun i r hr=>?_⟩,by rw[zr];omega,aa,hxr.toStep⟩;have hi:i<k:=by
    rcases Zl i k with hi|hi
    ·exact hi
    ·rw[List.getElem?_eq_none (by rw[zr];exact hi)]at hr;cases hr
   rw[QT _ _ _ _ hi]at hr;injection hr with hr
   subst hr;obtain⟨B,b1,b2⟩:=v3 i hi;exact⟨B,cols,by simpa using b1,b2,af,aa⟩
def Heads1(w:World)(G:Nat)(F:Nat->Nat->Int)(zc cols k:Nat):Prop:=
 ∃hd:List Value,VRow w G 34 hd/\hd.length=zc/\(∀i,i<k->∃B,hd[i]? =some (.slice B cols cols)/\Ints w B 2 .i64 ((List.range cols).map fun j=>F i j))/\∀i,k<=i->i<zc->hd[i]? =some (.slice none 0 0)
def Cells1(w:World)(g:Nat)(F:Nat->Int)(cols q:Nat):Prop:=Row w g 2 .i64 ((List.range q).map F++List.replicate (cols-q) 0)/\q<=cols
theorem Cells1.made(w:World)(F:Nat->Int)(cols:Nat):Cells1 (w.alloc (.cells (zH #[.int .i64 0] (cols*1)) 2)) w.heap.size F cols 0:=by
 refine⟨?_,Nat.zero_le _⟩;have:(zH #[.int .i64 0] (cols*1))=zO cols .i64:=by
  apply Array.ext';rw[Qo];simp[zO]
 rw[this];simpa using Row.made w cols .i64 2
theorem Cells1.full(h:Cells1 w g F cols cols):Ints w (some ⟨g,0,none⟩) 2 .i64 ((List.range cols).map F):=by
 have:=h.1.ints;simpa using this
theorem Cells1.ext(h:Cells1 w g F cols q)(hx:Ext w w'):Cells1 w' g F cols q:=⟨h.1.ext hx,h.2⟩
theorem Cells1.put(h:Cells1 w g F cols q)(hq:q<cols):Cells1 (w.setCell ⟨g,q,none⟩ (.int .i64 (F q))) g F cols (q+1):=by
 refine⟨?_,hq⟩;have:=h.1.fill aa (show ((List.range q).map F).length=q by simp) (F q);rw[List.range_succ,List.map_append,(aa:cols-(q+1)=cols-q-1)];exact this
theorem Cells1.cells(h:Cells1 w g F cols q)(hq:q<cols):
  w.cell? ⟨g,q,none⟩=some (.int .i64 0)/\w.frozen? ⟨g,q,none⟩=false/\g<w.heap.size:=by
 obtain⟨x,hx,hc⟩:=h.1.cell (i:=q) (by simp;omega);rw[List.getElem?_append_right af]at hx;have hx0:x=0:=List.eq_of_mem_replicate (Zm hx);subst hx0;exact⟨hc,h.1.frozen _,h.1.lt⟩
theorem Heads1.made(w:World)(F:Nat->Nat->Int)(zc cols:Nat):Heads1 (w.alloc (.cells (zH #[.slice none 0 0] (zc*1)) 34)) w.heap.size F zc cols 0:=by
 refine⟨_,VRow.new w _ _,?_,fun i hi=>absurd hi aa,fun i _ hi=>?_⟩
 ·rw[JP];omega
 ·rw[Qo,Nat.mul_one,List.getElem?_replicate];simp[hi]
def AllLen(m:List (List Int))(n:Nat):Prop:=∀r∈m,r.length=n
theorem zkA(h:MatA w0 A m)(n:Nat)(h1:1<=m.length)(h2:m.length<=16)(h3:1<=n)(h4:n<=16)(hn:AllLen m n)[hx:Ext w0 w]:
  Cq 182 #[.slice A m.length c] w (Zq w (.tuple #[.int .i64 m.length,.int .i64 n,.bool true])):=by
 have h0:=h.ext hx;have hg:∀(i:Nat)(r:List Int),m[i]? =some r->r.length=n:=fun i r hr=>hn r (Zm hr)
 obtain⟨b,o,B,c0,rfl,hc0,-,-,-,hb⟩:=h0.at_ (i:=0) (r:=m[0]) af;rw[hg 0 m[0] af]at hc0;simp only[Nat.add_zero]at hc0;have HG:=Zh hg;clear hg hn;have hd1:decide ((m.length:Int)<1)=false:=by simp;omega
 have hd2:decide ((16:Int)<(m.length:Int))=false:=by simp;omega
 have hd3:decide ((n:Int)<1)=false:=by simp;omega
 have hd4:decide ((16:Int)<(n:Int))=false:=by simp;omega
 go_enter Tryz.func182,Tryz.ntmps182;go_wp2;go_loop [7,28] (fun _ i=>∃k:Nat,k<=m.length/\i= .int .i64 k) (fun _ i=>m.length-(intOf i).toNat)
 case atStart=>exact⟨0,aa,rfl⟩
 case round=>
  obtain⟨k,hk,rfl⟩:=hrel;by_cases hlt:k<m.length
  ·obtain⟨b',o',B',c',hh,hc,-,-,-,-⟩:=h0.at_ (i:=k) (r:=m[k]) (by simp[hlt]);injection hh with hh
   injection hh with e1 e2
   subst e1 e2;rw[HG.out k m[k] (by simp[hlt])]at hc;go_wp2;exact⟨⟨k+1,aa,by go_num⟩,by simp[intOf]<;>omega⟩
  ·go_wp2;go_ret3
   exact⟨rfl,rfl⟩
theorem zkB(h:MatA w0 A m)(i j:Nat)(r:List Int)(x:Int)(hr:m[i]? =some r)(hxr:r[j]? =some x)(hx0:-9223372036854775808<=x)(hx1:x<=9223372036854775807)
  (hp:w.cell? ⟨pb,0,none⟩=some (.slice A m.length c)) (hpb:pb<w.heap.size) [hx:Ext w0 w]:
  Cq 184 #[.int .i64 i,.int .i64 j,.pointer (some ⟨pb,0,none⟩)] w (zz w x):=by
 have h0:=h.ext hx;obtain⟨b,o,B,c0,rfl,hc0,hI,hc1,hc2,hb⟩:=h0.at_ hr;have hi:i<m.length:=(Zg.1 hr).1;have hj:j<r.length:=(Zg.1 hxr).1;obtain⟨b1,o1,x1,rfl,hx2,hc3,hb1⟩:=hI.at_ hj;have hxx:x1=x:=by rw[hx2]at hxr;injection hxr
 subst hxx;clear hx2 hxr hr;go_enter Tryz.func184,Tryz.ntmps184;go_wp2_with fail
 refine(zbN x1 hx0 hx1 _).mono ?_;rintro e w2 ⟨g,B2,k2,d2,rfl,hz,hs2⟩;obtain⟨q0,q1,q2,q3,q4,q5⟩:=qG w w2 (.bool false) (.slice none 0 0) 102;have Q0:=Zh q0;clear q0;go_wp2;exact bodyPost_ret (v:= .agg #[.bool g,.slice B2 k2 d2]) (by simp[results,Tryz.results184,go_sem,q1,q2]) rfl ⟨_,_,_,_,rfl,hz.boxed ac Q0.out _ _,Step.of _ _⟩
def qf(m:List (List Int)):Prop:=∀r∈m,∀x∈r,-9223372036854775808<=x/\x<=9223372036854775807
def zfy(w:World)(m:List (List Int))(b:Bool)(e:Ending)(w':World):Prop:=∃A c,e= .returned (.tuple #[.slice A m.length c,.bool b])/\MatV w' A m/\m.length<=c/\c<=9223372036854775807/\Step w w'
theorem Jl(m:List (List Int))(n:Nat)(hn:AllLen m n):tab (fun i j=>(m.getD i []).getD j 0) m.length n=m:=by
 apply List.ext_getElem?;intro i;rcases Zl i m.length with hi|hi
 ·rw[QT _ _ _ _ hi];have hr:m[i]? =some m[i]:=af
  rw[hr];congr 1
  have hl:m[i].length=n:=hn _ (getElem_mem hi);apply List.ext_getElem?;intro j;rcases Zl j n with hj|hj
  ·simp[hj,hi,List.getD,hl]
  ·rw[List.getElem?_eq_none (by simpa using hj),List.getElem?_eq_none aa]
 ·rw[List.getElem?_eq_none (by rw[zr];exact hi),List.getElem?_eq_none hi]
theorem zkC:qB 184:=JQ Tryz.func184 ai ai
theorem zdh(h:MatA w0 A m)(n:Nat)(h1:1<=m.length)(h2:m.length<=16)(h3:1<=n)(h4:n<=16)(hn:AllLen m n)(h64:qf m)[hx:Ext w0 w]:
  Cq 129 #[.slice A m.length c] w (zfy w m true):=by
 have hb:=zkz (w:=w.alloc (.cells #[.slice A m.length c] 25)) 184 #[.pointer (some ⟨w.heap.size,0,none⟩)] m.length n aa aa zkC (fun i j=>(m.getD i []).getD j 0)
  (fun i j W hi hj hW=>by
   have hr:m[i]? =some m[i]:=af
   have hl:m[i].length=n:=hn _ (getElem_mem hi);have hxj:m[i][j]? =some (m[i][j]'aa):=af
   have zsv:=h64 m[i] (getElem_mem hi) _ (getElem_mem (aa:j<m[i].length));have e1:(m.getD i []).getD j 0=m[i][j]'aa:=by simp[List.getD,hi,hxj]
   rw[e1];have zsU:W.cell? ⟨w.heap.size,0,none⟩=some (.slice A m.length c):=by
    have:=zg hW (heap_alloc_new w _);simp[World.cell?,this]
   have hsz:w.heap.size<W.heap.size:=zi (zg hW (heap_alloc_new w _));have:Ext w W:=Ext.trans Zi hW;have:Ext w0 W:=hx.trans this;exact zkB h i j m[i] _ hr hxj zsv.1 zsv.2 zsU hsz)
 rw[Jl m n hn]at hb;have HB:=Zh hb;clear hb;go_enter Tryz.func129,Tryz.ntmps129;go_wp2_with fail
 refine(zkA h n h1 h2 h3 h4 hn).mono ?_;rintro e w' ⟨rfl,rfl⟩;go_wp2_with fail
 refine HB.out.mono ?_;rintro e w2 ⟨A2,c2,rfl,hm,hc1,hc2,hs2⟩;go_wp2;go_ret2
 exact⟨A2,c2,rfl,hm,hc1,hc2,Step.of _ _⟩
theorem zdi(h:MatV w0 A m)(n:Nat)(h1:1<=m.length)(h2:m.length<=16)(h3:1<=n)(h4:n<=16)(hn:AllLen m n)[hx:Ext w0 w]:
  Cq 186 #[.slice A m.length c] w (Zq w (.tuple #[.int .i64 m.length,.int .i64 n,.bool true])):=by
 have h0:=h.ext hx;have hg:∀(i:Nat)(r:List Int),m[i]? =some r->r.length=n:=fun i r hr=>hn r (Zm hr)
 obtain⟨b,o,B,c0,rfl,hc0,-,-,-,hb⟩:=h0.at_ (i:=0) (r:=m[0]) af;rw[hg 0 m[0] af]at hc0;simp only[Nat.add_zero]at hc0;have HG:=Zh hg;clear hg hn;have hd1:decide ((m.length:Int)<1)=false:=by simp;omega
 have hd2:decide ((16:Int)<(m.length:Int))=false:=by simp;omega
 have hd3:decide ((n:Int)<1)=false:=by simp;omega
 have hd4:decide ((16:Int)<(n:Int))=false:=by simp;omega
 go_enter Tryz.func186,Tryz.ntmps186;go_wp2;go_loop [7,28] (fun _ i=>∃k:Nat,k<=m.length/\i= .int .i64 k) (fun _ i=>m.length-(intOf i).toNat)
 case atStart=>exact⟨0,aa,rfl⟩
 case round=>
  obtain⟨k,hk,rfl⟩:=hrel;by_cases hlt:k<m.length
  ·obtain⟨b',o',B',c',hh,hc,-,-,-,-⟩:=h0.at_ (i:=k) (r:=m[k]) (by simp[hlt]);injection hh with hh
   injection hh with e1 e2
   subst e1 e2;rw[HG.out k m[k] (by simp[hlt])]at hc;go_wp2;exact⟨⟨k+1,aa,by go_num⟩,by simp[intOf]<;>omega⟩
  ·go_wp2;go_ret3
   exact⟨rfl,rfl⟩
theorem zkD(h:MatV w0 A m)(n:Nat)(h1:1<=m.length)(h2:m.length<=16)(h3:1<=n)(h4:n<=16)(hn:AllLen m n)[hx:Ext w0 w]:
  Cq 310 #[.slice A m.length c] w (Zq w (.tuple #[.int .i64 m.length,.int .i64 n,.bool true])):=by
 go_enter Tryz.func310,Tryz.ntmps310;go_wp2_with (go_at_call 186;refine(zdi h n h1 h2 h3 h4 hn).mono ?_;rintro e w' ⟨rfl,rfl⟩)
 go_ret3
 exact⟨rfl,rfl⟩
theorem zae{b:Nat}{v:Value}(h:w.cell? ⟨b,i,none⟩=some v):w.setCell ⟨b,i,none⟩ v=w:=by
 unfold World.cell? at h;unfold World.setCell;have:(w.heap.modify b fun x=>match x with
   | .cells c elem frozen=> .cells (if (none:Option Nat).isSome then c else c.setIfInBounds i v) elem frozen
   |o=>o)=w.heap:=by
  apply Array.ext_getElem?;intro k;rw[Array.getElem?_modify];split
  ·rename_i hk
   subst hk
   cases hb:w.heap[b]? with
   |none=>simp
   |some o=>
    simp only[hb]at h
    cases o with
    |cells cs e fr=>
     simp at h;simp only[Option.map_some,Option.isSome_none,Bool.false_eq_true,if_false];congr 2
     apply Array.ext_getElem?;intro q;rw[Array.getElem?_setIfInBounds];split
     ·rename_i hq
      subst hq;obtain⟨hlt,hv⟩:=Array.getElem?_eq_some_iff.1 h;simp[hlt,hv]
     ·rfl
    |_=>simp at h
  ·rfl
 exact(congrArg (fun hp=>({w with heap:=hp}:World)) this).trans rfl
theorem zkE{ob:Nat}(h:MatV w0 A m)(i j:Nat)(r:List Int)(x:Int)(hr:m[i]? =some r)(hxr:r[j]? =some x)(hx0:-9223372036854775808<=x)(hx1:x<=9223372036854775807)
  (hp:w.cell? ⟨pb,0,none⟩=some (.slice A m.length c)) (ho:w.cell? ⟨ob,0,none⟩=some (.bool true)) (hob:ob<w.heap.size) (hof:w.frozen? ⟨ob,0,none⟩=false) [hx:Ext w0 w]:
  Cq 297 #[.int .i64 i,.int .i64 j,.pointer (some ⟨pb,0,none⟩),.pointer (some ⟨ob,0,none⟩)] w (zA w (.int .i64 x)):=by
 have h0:=h.ext hx;obtain⟨b,o,B,c0,rfl,hc0,hI,hc1,hc2,hb⟩:=h0.at_ hr;have hi:i<m.length:=(Zg.1 hr).1;have hj:j<r.length:=(Zg.1 hxr).1;obtain⟨b1,o1,g1,B1,n1,c1,rfl,hd1,hd2,hV,hb1⟩:=hI.at_ hj;have hxx:r[j]=x:=(Zg.1 hxr).2;rw[hxx]at hV;clear hxx hxr hr;go_enter Tryz.func297,Tryz.ntmps297;go_wp2_with fail
 refine(zdf hV hx0 hx1).mono ?_;rintro e w2 ⟨rfl,hs2⟩;have hx2:Ext w w2:=hs2.ext;have ho2:w2.cell? ⟨ob,0,none⟩=some (.bool true):=(hx2.below.cell (p:=⟨ob,0,none⟩) hob).trans ho;have hf2:w2.frozen? ⟨ob,0,none⟩=false:=(hx2.below.frozen (p:=⟨ob,0,none⟩) hob).trans hof;have zs1:=Zh (zae ho2);go_wp2;go_ret;refine⟨rfl,?_⟩;rw[zs1.out];exact hs2
theorem zkF:qB 297:=JQ Tryz.func297 ai ai
def zkG(w:World)(m:List (List Int))(b:Bool)(e:Ending)(w':World):Prop:=∃A c,e= .returned (.tuple #[.slice A m.length c,.bool b])/\Mat64 w' A m/\m.length<=c/\c<=9223372036854775807/\Step w w'
theorem za0(W w':World)(s:Nat)(x:Value)(T:TypeId)(hs:W.heap.size=s)[h:Ext (W.alloc (.cells #[x] T)) w']:
  w'.heap[s]? =some (.cells #[x] T (0,0))/\w'.cell? ⟨s,0,none⟩=some x/\w'.frozen? ⟨s,0,none⟩=false/\s<w'.heap.size:=by
 subst hs;have h0:w'.heap[W.heap.size]? =some (.cells #[x] T (0,0)):=zg h (heap_alloc_new W _);exact⟨h0,by simp[World.cell?,h0],by simp[World.frozen?,h0],(Array.getElem?_eq_some_iff.1 h0).1⟩
end Go.Proofs.YtgoaelchibpffaaGreat

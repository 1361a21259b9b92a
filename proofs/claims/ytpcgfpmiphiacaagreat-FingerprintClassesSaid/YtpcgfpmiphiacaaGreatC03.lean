import Derived.Test.YtpcgfpmiphiacaaGreatC02
import Derived.Deep.RegionHeld3
set_option maxHeartbeats 8000000
set_option linter.unusedVariables false
set_option linter.unusedSimpArgs false
namespace Go.Proofs.YtpcgfpmiphiacaaGreat
open Go.RowKit
open List (getElem?_eq_none getElem?_set_ne getElem?_set_self getElem_mem)
variable {p:Addr} {cs cs':Array Value} {na nb neg:Bool} {x y z:Int} {m:List (List Int)} {l r zs:List Int} {c cols d g i k n pb q s zf:Nat} {F:Nat->Int} {fr:Nat×Nat} {A B:Option Addr} {P:Program} {T e t:TypeId} {w w' w0 w1:World}
theorem zkb{m:List Int}(na nb:Bool)(ha:Ints w0 A 271 .u32 l)(hb:Ints w1 B 271 .u32 m)(hl:Limbs l)(hm:Limbs m)(tl:Tight l)(tm:Tight m)
  (h1:l.length<=1099511627776) (h2:m.length<=1099511627776) [hx:Ext w0 w] [hy:Ext w1 w]:
  Cq 277 #[.bool na,.slice A l.length c,.bool nb,.slice B m.length d] w (zD w (zq na (val l)+zq nb (val m))):=by
 by_cases hn:na=nb
 ·subst hn;go_enter Tryz.func277,Tryz.ntmps277;go_wp2_with fail
  refine(zfe ha hb hl hm h1 h2).mono ?_;rintro e w1 ⟨B1,d1,l1,rfl,hi1,hl1,ht1,hv1,hd1,hd2,hs1⟩;have HV:=Zh hv1;clear hv1;go_wp2_with fail
  refine(JG na hi1 hl1 ht1 hd1 hd2).mono ?_;rintro e w2 ⟨g,B,k,d,rfl,hz,hs2⟩;obtain⟨q0,q1,q2,q3,q4,q5⟩:=qR w w2 (.bool false) (.slice none 0 0) 149;have Q0:=Zh q0;clear q0;go_wp2;refine bodyPost_ret (v:= .agg #[.bool g,.slice B k d]) (by simp[results,Tryz.results277,go_sem,q1,q2]) rfl ⟨_,_,_,_,rfl,?_,Step.of _ _⟩;have e1:zq na (val l1)=zq na (val l)+zq na (val m):=by rw[HV.out];cases na<;>simp[zq];omega
  rw[e1]at hz;exact hz.boxed (by decide) Q0.out _ _
 ·have hnb:(na==nb)=false:=by simp[hn]
  by_cases hle:val m<=val l
  ·have zr7:m.length<=l.length:=by
    rcases Zl l.length m.length with h|h
    ·have:=Je hl hm tm h;omega
    ·exact h
   have hc:zk (val l) (val m)=0∨zk (val l) (val m)=1:=by unfold zk;split;omega;split<;>simp
   have hge:0<=zk (val l) (val m):=by omega
   have HE:=Zh (show zq na (val l-val m)=zq na (val l)+zq nb (val m) by cases na<;>cases nb<;>simp_all [zq]<;>omega);clear hn hc;go_enter Tryz.func277,Tryz.ntmps277;go_wp2_with fail
   refine(zcV ha hb hl hm tl tm (by omega) (by omega)).mono ?_;rintro e w3 ⟨rfl,hs3⟩;go_wp2_with fail
   refine(zcX ha hb hl hm h1 zr7 hle).mono ?_;rintro e w1 ⟨B1,d1,l1,rfl,hi1,hl1,ht1,hv1,hd1,hd2,hs1⟩;have HV:=Zh hv1;clear hv1;go_wp2_with fail
   refine(JG na hi1 hl1 ht1 hd1 hd2).mono ?_;rintro e w2 ⟨g,B,k,d,rfl,hz,hs2⟩;obtain⟨q0,q1,q2,q3,q4,q5⟩:=qR w w2 (.bool false) (.slice none 0 0) 149;have Q0:=Zh q0;clear q0;go_wp2;refine bodyPost_ret (v:= .agg #[.bool g,.slice B k d]) (by simp[results,Tryz.results277,go_sem,q1,q2]) rfl ⟨_,_,_,_,rfl,?_,Step.of _ _⟩;rw[HV.out,HE.out]at hz;exact hz.boxed (by decide) Q0.out _ _
  ·have zr7:l.length<=m.length:=by
    rcases Zl m.length l.length with h|h
    ·have:=Je hm hl tl h;omega
    ·exact h
   have hc:=ql (show val l<val m by omega);have HE:=Zh (show zq nb (val m-val l)=zq na (val l)+zq nb (val m) by cases na<;>cases nb<;>simp_all [zq]<;>omega);clear hn;go_enter Tryz.func277,Tryz.ntmps277;go_wp2_with fail
   refine(zcV ha hb hl hm tl tm (by omega) (by omega)).mono ?_;rintro e w3 ⟨rfl,hs3⟩;go_wp2_with fail
   refine(zcX hb ha hm hl h2 zr7 (by omega)).mono ?_;rintro e w1 ⟨B1,d1,l1,rfl,hi1,hl1,ht1,hv1,hd1,hd2,hs1⟩;have HV:=Zh hv1;clear hv1;go_wp2_with fail
   refine(JG nb hi1 hl1 ht1 hd1 hd2).mono ?_;rintro e w2 ⟨g,B,k,d,rfl,hz,hs2⟩;obtain⟨q0,q1,q2,q3,q4,q5⟩:=qR w w2 (.bool false) (.slice none 0 0) 149;have Q0:=Zh q0;clear q0;go_wp2;refine bodyPost_ret (v:= .agg #[.bool g,.slice B k d]) (by simp[results,Tryz.results277,go_sem,q1,q2]) rfl ⟨_,_,_,_,rfl,?_,Step.of _ _⟩;rw[HV.out,HE.out]at hz;exact hz.boxed (by decide) Q0.out _ _
theorem Qa(h:IntV w0 neg A n c z)[hx:Ext w0 w]:
  Cq 223 #[.slice A n c] w (Zv w (.slice A n c)):=by
 obtain⟨l,rfl,h2,h3,h4,h5,h6,h7,h8⟩:=h;refine(zaa (h6.ext hx) h7 h8).mono ?_;rintro e w' ⟨m,hm,ht,hv,rfl,rfl⟩;have:m=l.length:=by
  have e1:val (l.drop m)=0:=by
   have:=zbO (l:=l) m;have hp:=jb (l.take m).length;have h9:(4294967296:Int)^(l.take m).length*val (l.drop m)=0:=by omega
   rcases Int.mul_eq_zero.1 h9 with h|h
   ·omega
   ·exact h
  have e2:Tight (l.drop m):=by
   intro hh;apply h3;rw[List.getLast?_drop]at hh;split at hh
   ·simp at hh
   ·exact hh
  have e3:=(zaT (h2.drop m) e2).1 e1;have:=List.drop_eq_nil_iff.1 e3;omega
 subst this;exact⟨rfl,rfl⟩
theorem IntV.boxedN{g:Bool}{z':Int}(hz:IntV w g B k d z)(he:z=z')(hT:271≠T)(q:w.heap[s]? =some (.cells cs T (0,0)))(u v:Value):
  IntV ((w.setCell ⟨s,0,none⟩ u).setCell ⟨s,1,none⟩ v) g B k d z':=he▸hz.boxed hT q u v
theorem zkc(ha:IntV w0 na A n c x)(hb:IntV w1 nb B k d y)
  (h1:n<=1099511627776) (h2:k<=1099511627776) [hx:Ext w0 w] [hy:Ext w1 w]:
  Cq 257 #[.agg #[.bool na,.slice A n c],.agg #[.bool nb,.slice B k d]] w (zD w (x-y)):=by
 obtain⟨la,rfl,hl,tl,hv,hsx,hi,h7,h8⟩:=id ha;obtain⟨lb,rfl,hl',tl',hv',hsy,hi',h7',h8'⟩:=id hb;have HE:=Zh (show zq na (val la)+zq (!nb) (val lb)=x-y by subst hsx hsy;rw[hv,hv'];unfold zq;split<;>split<;>simp_all<;>omega);clear hv hv' hsx hsy;go_enter Tryz.func257,Tryz.ntmps257;go_wp2;go_region_held3 (fun w'=>w'.cell? ⟨w.heap.size,0,none⟩=some (.bool na)/\w'.cell? ⟨w.heap.size,1,none⟩=some (.slice A la.length c)/\w'.cell? ⟨w.heap.size+1,0,none⟩=some (.bool nb)/\w'.cell? ⟨w.heap.size+1,1,none⟩=some (.slice B lb.length d)) (exact qx w _ _ _ _ _ 149 149)
  (first
   |(go_at_call_of 223 (Value.slice A la.length c);refine(Qa ha).mono ?_;rintro e w' ⟨rfl,rfl⟩)
   |(go_at_call_of 223 (Value.slice B lb.length d);refine(Qa hb).mono ?_;rintro e w' ⟨rfl,rfl⟩)
   |(go_at_call 277;refine(zkb na (!nb) hi hi' hl hl' tl tl' h1 h2).mono ?_;rintro e w2 ⟨g,B1,k1,d1,rfl,hz,hs2⟩;obtain⟨q0,q1,q2,q3,q4,q5⟩:=jt w w2 (.cells #[.bool na,.slice A la.length c] 149) (.cells #[.bool nb,.slice B lb.length d] 149) (.bool false) (.slice none 0 0) 149))
 have Q0:=Zh q0;clear q0;go_wp2;exact bodyPost_ret (v:= .agg #[.bool g,.slice B1 k1 d1]) (by simp[results,Tryz.results257,go_sem,q1,q2]) rfl ⟨_,_,_,_,rfl,hz.boxedN HE.out (by decide) Q0.out _ _,Step.of _ _⟩
theorem IntV.zero_iff(h:IntV w neg A n c z):n=0↔z=0:=by
 obtain⟨l,rfl,h2,h3,h4,_⟩:=h;have:=zaT h2 h3;constructor
 ·intro hn;have hl:=List.eq_nil_of_length_eq_zero hn;subst hl;simp[val]at h4;omega
 ·rintro rfl;have:=this.1 (by rw[h4];rfl);subst this;rfl
theorem IntV.neg_eq(h:IntV w neg A n c z):neg=decide (z<0):=by
 obtain⟨l,_,_,_,_,h5,_⟩:=h;exact h5
theorem zfh(ha:IntV w0 na A n c x)(hb:IntV w1 nb B k d y)
  (h1:n<=1099511627776) (h2:k<=1099511627776) [hx:Ext w0 w] [hy:Ext w1 w]:
  Cq 258 #[.agg #[.bool na,.slice A n c],.agg #[.bool nb,.slice B k d]] w (zD w (x*y)):=by
 obtain⟨la,rfl,hl,tl,hv,hsx,hi,h7,h8⟩:=id ha;obtain⟨lb,rfl,hl',tl',hv',hsy,hi',h7',h8'⟩:=id hb;have HE:=Zh (show zq (na !=nb) (val la*val lb)=x*y by
  subst hsx hsy;rw[hv,hv',<-Int.natCast_mul,<-Int.natAbs_mul];unfold zq;by_cases hx:x<0<;>by_cases hy:y<0<;>simp[hx,hy]
  ·have:=Int.mul_pos_of_neg_of_neg hx hy;omega
  ·have:=Int.mul_nonpos_of_nonpos_of_nonneg (Int.le_of_lt hx) (by omega:0<=y);omega
  ·have:=Int.mul_nonpos_of_nonneg_of_nonpos (by omega:0<=x) (Int.le_of_lt hy);omega
  ·have:=Int.mul_nonneg (by omega:0<=x) (by omega:0<=y);omega)
 clear hv hv' hsx hsy;go_enter Tryz.func258,Tryz.ntmps258;go_wp2;go_region_held3 (fun w'=>w'.cell? ⟨w.heap.size,0,none⟩=some (.bool na)/\w'.cell? ⟨w.heap.size,1,none⟩=some (.slice A la.length c)/\w'.cell? ⟨w.heap.size+1,0,none⟩=some (.bool nb)/\w'.cell? ⟨w.heap.size+1,1,none⟩=some (.slice B lb.length d)) (exact qx w _ _ _ _ _ 149 149)
  (first
   |(go_at_call_of 223 (Value.slice A la.length c);refine(Qa ha).mono ?_;rintro e w' ⟨rfl,rfl⟩)
   |(go_at_call_of 223 (Value.slice B lb.length d);refine(Qa hb).mono ?_;rintro e w' ⟨rfl,rfl⟩)
   |(go_at_call 278;refine(zka hi hi' hl hl' h1 h2).mono ?_;rintro e w3 ⟨B1,d1,l1,rfl,hi1,hl1,ht1,hv1,hd1,hd2,hs1⟩;have HV:=Zh hv1;clear hv1)
   |(go_at_call 255;refine(JG (na !=nb) hi1 hl1 ht1 hd1 hd2).mono ?_;rintro e w2 ⟨g,B2,k2,d2,rfl,hz,hs2⟩;obtain⟨q0,q1,q2,q3,q4,q5⟩:=jt w w2 (.cells #[.bool na,.slice A la.length c] 149) (.cells #[.bool nb,.slice B lb.length d] 149) (.bool false) (.slice none 0 0) 149))
 have Q0:=Zh q0;clear q0;go_wp2;exact bodyPost_ret (v:= .agg #[.bool g,.slice B2 k2 d2]) (by simp[results,Tryz.results258,go_sem,q1,q2]) rfl ⟨_,_,_,_,rfl,hz.boxedN (by rw[HV.out];exact HE.out) (by decide) Q0.out _ _,Step.of _ _⟩
theorem zkd(ha:IntV w0 na A n c x)[hx:Ext w0 w]:
  Cq 243 #[.agg #[.bool na,.slice A n c]] w (zy w (.int .i64 (zk x 0))):=by
 have hz:=ha.zero_iff;have hn:=ha.neg_eq;by_cases h0:x=0
 ·obtain rfl:=hz.2 h0;have HE:=Zh (q9 h0);clear hz hn h0;go_enter Tryz.func243,Tryz.ntmps243;go_wp2_with (go_at_call 223;refine(Qa ha).mono ?_;rintro e w' ⟨rfl,rfl⟩)
  go_ret;exact⟨by rw[HE.out];rfl,Step.of _ _⟩
 ·have hn0:((n:Int)==0)=false:=by simp;exact fun h=>h0 (hz.1 h)
  by_cases zsa:x<0
  ·have HE:=Zh (ql zsa);obtain rfl:na=true:=by simp[hn,zsa]
   clear hz hn h0 zsa;go_enter Tryz.func243,Tryz.ntmps243;go_wp2_with (go_at_call 223;refine(Qa ha).mono ?_;rintro e w' ⟨rfl,rfl⟩)
   go_ret;exact⟨by rw[HE.out];rfl,Step.of _ _⟩
  ·have HE:=Zh (qH (show 0<x by omega));obtain rfl:na=false:=by simp[hn];omega
   clear hz hn h0 zsa;go_enter Tryz.func243,Tryz.ntmps243;go_wp2_with (go_at_call 223;refine(Qa ha).mono ?_;rintro e w' ⟨rfl,rfl⟩)
   go_ret;exact⟨by rw[HE.out];rfl,Step.of _ _⟩
theorem zfi(h:IntV w0 neg A n c z)(h2:n<=2)[hx:Ext w0 w]:
  Cq 224 #[.slice A n c] w (Zv w (.int .u64 z.natAbs)):=by
 obtain⟨l,rfl,hl,h3,h4,h5,h6,h7,h8⟩:=h;rw[<-h4];exact zbN (h6.ext hx) hl h2
theorem zfj(ha:IntV w0 na A n c x)(h0:-9223372036854775808<=x)(h1:x<=9223372036854775807)[hx:Ext w0 w]:
  Cq 173 #[.agg #[.bool na,.slice A n c]] w (zy w (.tuple #[.int .i64 x,.bool true])):=by
 have hn:=ha.neg_eq;have zr7:n<=2:=ha.len (k:=2) (by omega);by_cases zsa:x<0
 ·obtain rfl:na=true:=by simp[hn,zsa]
  have hab:(x.natAbs:Int)=-x:=by omega
  have hw:=zfi (w:=w.alloc (.cells #[.bool true,.slice A n c] 149)) ha zr7;rw[hab]at hw;have HW:=Zh hw;clear hn hw hab;have hle:decide (-x<=9223372036854775808)=true:=by simp;omega
  go_enter Tryz.func173,Tryz.ntmps173;go_wp2_with (first
   |(go_at_call 223;refine(Qa ha).mono ?_;rintro e w' ⟨rfl,rfl⟩)
   |(go_at_call 224;refine HW.out.mono ?_;rintro e w' ⟨rfl,rfl⟩))
  go_ret2
  refine⟨?_,Step.of _ _⟩;have e1:wrap64 (IntKind.u64.wrap x)=x:=by simp only[wrap64,IntKind.wrap_u64,IntKind.wrap_i64];omega
  simp[e1]
 ·obtain rfl:na=false:=by simp[hn];omega
  have hab:(x.natAbs:Int)=x:=by omega
  have hw:=zfi (w:=w.alloc (.cells #[.bool false,.slice A n c] 149)) ha zr7;rw[hab]at hw;have HW:=Zh hw;clear hn hw hab;have hx0:0<=x:=by omega
  clear zsa;go_enter Tryz.func173,Tryz.ntmps173;go_wp2_with (first
   |(go_at_call 223;refine(Qa ha).mono ?_;rintro e w' ⟨rfl,rfl⟩)
   |(go_at_call 224;refine HW.out.mono ?_;rintro e w' ⟨rfl,rfl⟩))
  go_ret2
  refine⟨?_,Step.of _ _⟩;simp
theorem zcZ(h:P.underlying t=some (.slice e))(a:Option Addr)(n c:Nat)(w:World):
  (binOp .eql t (.slice a n c) (.slice none 0 0)).run P w= .ok (.bool a.isNone) w:=by
 simp only[binOp];simp[Op.equal,Op.maxDepth,Lib.run_equalIn_slice_nil w 9999 t e a n c 0 0 h]
def zc0(w:World)(e:TypeId)(k:IntKind)(l:List Int)(ev:Ending)(w':World):Prop:=∃B d,ev= .returned (.slice B l.length d)/\Ints w' B e k l/\l.length<=d/\d<=9223372036854775807/\Step w w'
theorem zaV{k:IntKind} :∀u∈l.map (Value.int k),u.oneCell'=true:=by
 intro u hu;obtain⟨x,_,rfl⟩:=List.mem_map.1 hu;rfl
theorem Own.empty(w:World)(e:TypeId):Own (w.alloc (.cells #[] e)) w.heap.size e 1 (some ⟨w.heap.size,0,none⟩) 0 0 []:=
 ⟨by simp,.inr ⟨w.heap.size,0,#[],rfl,Zr,heap_alloc_new w _,Zr,by simp[maxLen],by simp,by simp⟩⟩
theorem zke(h:Ints w0 A 271 .u32 l)(hl:l.length<=1099511627776)[hx:Ext w0 w]:
  Cq 274 #[.slice A l.length c] w (zc0 w 271 .u32 l):=by
 have hq:=zcZ (P:=Tryz.prog) Tryz.underlying147;have h1:=h.ext hx
 cases A with
 |none=>
  have h0:l=[]:=by
   rcases Nat.eq_zero_or_pos l.length with h0|h0
   ·exact List.eq_nil_of_length_eq_zero h0
   ·obtain⟨b,o,cs,fr,hh,_⟩:=h1 (by simpa using h0)
    cases hh
  subst h0;go_enter Tryz.func274,Tryz.ntmps274;go_wp2;go_ret;exact⟨none,0,rfl,Ints.nil,by simp,by omega,Step.of _ _⟩
 |some ad=>
  go_enter Tryz.func274,Tryz.ntmps274;go_wp2_with (at_builtin;refine zM _ rfl _ _ 147 rfl w.heap.size 271 (.int .u32 0) 1 4 Tryz.underlying147 Tryz.infoU32 rfl (by omega) (by omega) _ 0 _ [] rfl (Own.empty w _) _ l.length c (l.map (Value.int .u32)) rfl (Arr.ext h1 Zi) (by simp) zaV (by omega) (by simp) ?_;intro A1 c1 w1 zr5 hg)
  go_ret;have zsf:=zr5.cap;have hxx:Ext w w1:=hg.ext Zi Zr;exact⟨A1,c1,by simp,zr5.arr,by omega,by omega,hxx.toStep⟩
def NatV(w:World)(A:Option Addr)(n c:Nat)(z:Int):Prop:=∃l:List Int,n=l.length/\Ints w A 271 .u32 l/\Limbs l/\Tight l/\val l=z/\n<=c/\c<=9223372036854775807
theorem NatV.ext(h:NatV w A n c z)(hx:Ext w w'):NatV w' A n c z:=by
 obtain⟨l,h1,h2,h3⟩:=h;exact⟨l,h1,h2.ext hx,h3⟩
theorem NatV.nil(w:World):NatV w none 0 0 0:=⟨[],rfl,Ints.nil,Limbs.nil,Tight.nil,rfl,Zr,by omega⟩
theorem NatV.zero_iff(h:NatV w A n c z):n=0↔z=0:=by
 obtain⟨l,rfl,_,h2,h3,h4,_⟩:=h;have:=zaT h2 h3;constructor
 ·intro hn;have hl:=List.eq_nil_of_length_eq_zero hn;subst hl;simpa[val] using h4.symm
 ·rintro rfl;have:=this.1 h4;subst this;rfl
theorem NatV.nonneg(h:NatV w A n c z):0<=z:=by
 obtain⟨l,rfl,_,h2,h3,h4,_⟩:=h;rw[<-h4];exact Ql h2
theorem NatV.len(h:NatV w A n c z)(hz:z<(4294967296:Int)^k):n<=k:=by
 obtain⟨l,rfl,_,h2,h3,h4,_⟩:=h;exact zbM h2 h3 (by rw[h4];exact hz)
theorem NatV.of_ret{e:Ending}(h:Qt w z e w'):∃B n d,e= .returned (.slice B n d)/\NatV w' B n d z/\Step w w':=by
 obtain⟨B,d,l,rfl,h1,h2,h3,h4,h5,h6,h7⟩:=h;exact⟨B,l.length,d,rfl,⟨l,rfl,h1,h2,h3,h4,h5,h6⟩,h7⟩
theorem IntV.nat(h:IntV w neg A n c z):NatV w A n c z.natAbs:=by
 obtain⟨l,h1,h2,h3,h4,h5,h6,h7,h8⟩:=h;exact⟨l,h1,h6,h2,h3,h4,h7,h8⟩
theorem JI(neg:Bool)(h:NatV w0 A n c z)[hx:Ext w0 w]:
  Cq 255 #[.bool neg,.slice A n c] w (zD w (zq neg z)):=by
 obtain⟨l,rfl,h1,h2,h3,rfl,h5,h6⟩:=h;exact JG neg h1 h2 h3 h5 h6
theorem zfk(ha:NatV w0 A n c x)(hb:NatV w1 B k d y)[hx:Ext w0 w][hy:Ext w1 w]:
  Cq 287 #[.slice A n c,.slice B k d] w (zy w (.int .i64 (zk x y))):=by
 obtain⟨l,rfl,h1,h2,h3,rfl,h5,h6⟩:=ha;obtain⟨m,rfl,g1,g2,g3,rfl,g5,g6⟩:=hb;exact zcV h1 g1 h2 g2 h3 g3 (by omega) (by omega)
theorem zkf(ha:NatV w0 A n c x)(hb:NatV w1 B k d y)(h1:n<=1099511627776)(h2:k<=1099511627776)[hx:Ext w0 w][hy:Ext w1 w]:
  Cq 280 #[.slice A n c,.slice B k d] w (Qt w (x+y)):=by
 obtain⟨l,rfl,a1,a2,a3,rfl,a5,a6⟩:=ha;obtain⟨m,rfl,g1,g2,g3,rfl,g5,g6⟩:=hb;exact zfe a1 g1 a2 g2 h1 h2
theorem zkg(ha:NatV w0 A n c x)(hb:NatV w1 B k d y)(h1:n<=1099511627776)(h2:y<=x)[hx:Ext w0 w][hy:Ext w1 w]:
  Cq 281 #[.slice A n c,.slice B k d] w (Qt w (x-y)):=by
 obtain⟨l,rfl,a1,a2,a3,rfl,a5,a6⟩:=ha;obtain⟨m,rfl,g1,g2,g3,rfl,g5,g6⟩:=hb;refine zcX a1 g1 a2 g2 h1 ?_ h2;rcases Zl l.length m.length with h|h
 ·have:=Je a2 g2 g3 h;omega
 ·exact h
theorem zfl(h:NatV w0 A n c z)(h2:n<=2)[hx:Ext w0 w]:
  Cq 224 #[.slice A n c] w (Zv w (.int .u64 z)):=by
 obtain⟨l,rfl,a1,a2,a3,rfl,a5,a6⟩:=h;exact zbN (a1.ext hx) a2 h2
theorem zfm(h:NatV w0 A n c z)(h2:n<=1099511627776)[hx:Ext w0 w]:
  Cq 274 #[.slice A n c] w (Qt w z):=by
 obtain⟨l,rfl,a1,a2,a3,rfl,a5,a6⟩:=h;refine(zke (c:=c) a1 h2).mono ?_;rintro e w' ⟨B,d,rfl,h1,h3,h4,h5⟩;exact⟨B,d,l,rfl,h1,a2,a3,rfl,h3,h4,h5⟩
def zkh(w:World)(q r:Int)(e:Ending)(w':World):Prop:=∃B n d B' n' d',e= .returned (.tuple #[.slice B n d,.slice B' n' d'])/\NatV w' B n d q/\NatV w' B' n' d' r/\Step w w'
theorem zki(ha:NatV w0 A n c x)(hb:NatV w1 B k d y)(h1:x<18446744073709551616)(hy0:0<y)(hy1:y<18446744073709551616)[hx:Ext w0 w][hy:Ext w1 w]:
  Cq 279 #[.slice A n c,.slice B k d] w (zkh w (x / y) (x%y)):=by
 have hn2:n<=2:=ha.len (k:=2) (by omega);have hk2:k<=2:=hb.len (k:=2) (by omega);have hx0:=ha.nonneg;by_cases hlt:x<y
 ·have hc:=ql hlt;have HQ:=Zh (show x / y=0 from Int.ediv_eq_zero_of_lt hx0 hlt);have HR:=Zh (show x%y=x from Int.emod_eq_of_lt hx0 hlt);go_enter Tryz.func279,Tryz.ntmps279;go_wp2_with fail
  refine(zfk ha hb).mono ?_;rintro e w2 ⟨rfl,hs2⟩;go_wp2_with fail
  refine(zfm ha (by omega)).mono ?_;intro e w3 hr;obtain⟨B3,n3,d3,rfl,hn3,hs3⟩:=NatV.of_ret hr;go_wp2;go_ret2
  exact⟨_,_,_,_,_,_,rfl,by rw[HQ.out];exact NatV.nil _,by rw[HR.out];exact hn3,Step.of _ _⟩
 ·have hc:0<=zk x y:=by unfold zk;split;omega;split<;>decide
  have hq0:0<=x / y:=Int.ediv_nonneg hx0 (by omega);have hq1:x / y<=x:=Int.ediv_le_self y hx0;have hr0:0<=x%y:=Int.emod_nonneg x (by omega);have hr1:x%y<y:=Int.emod_lt_of_pos x hy0;have hyb:(y==0)=false:=by simp;omega
  go_enter Tryz.func279,Tryz.ntmps279;go_wp2_with fail
  refine(zfk ha hb).mono ?_;rintro e w2 ⟨rfl,hs2⟩;go_wp2_with fail
  refine(zfl ha hn2).mono ?_;rintro e w3 ⟨rfl,rfl⟩;go_wp2_with fail
  refine(zfl hb hk2).mono ?_;rintro e w3 ⟨rfl,rfl⟩;go_wp2_with fail
  have hyn:¬y=0:=by omega
  have e1:x.tdiv y=x / y:=Int.tdiv_eq_ediv_of_nonneg hx0;have e2:x.tmod y=x%y:=Int.tmod_eq_emod_of_nonneg hx0;have e3:IntKind.u64.wrap (x / y)=x / y:=by rw[IntKind.wrap_u64];omega
  have e4:IntKind.u64.wrap (x%y)=x%y:=by rw[IntKind.wrap_u64];omega
  go_region_held3 (fun _=>True) (trivial)
   (first
    |(go_at_call_of 256 (Value.int IntKind.u64 (x / y));refine(zaU (x / y) hq0 (by omega) _).mono ?_;intro e w4 hr;obtain⟨B4,n4,d4,rfl,hn4,hs4⟩:=NatV.of_ret hr;clear hr)
    |(go_at_call_of 256 (Value.int IntKind.u64 (x%y));refine(zaU (x%y) hr0 (by omega) _).mono ?_;intro e w5 hr;obtain⟨B5,n5,d5,rfl,hn5,hs5⟩:=NatV.of_ret hr;clear hr))
  go_wp2;go_ret2
  exact⟨_,_,_,_,_,_,rfl,hn4.ext Zi,hn5,Step.of _ _⟩
def zc1(w:World)(q r:Int)(b:Bool)(e:Ending)(w':World):Prop:=∃g B n d g' B' n' d',e= .returned (.tuple #[.agg #[.bool g,.slice B n d],.agg #[.bool g',.slice B' n' d'],.bool b])/\IntV w' g B n d q/\IntV w' g' B' n' d' r/\Step w w'
theorem jc(w w':World)(x0 y0 x1 y1 x2 y2 x3 y3:Value)(T:TypeId)[h:Ext ((((w.alloc (.cells #[x0,y0] T)).alloc (.cells #[x1,y1] T)).alloc (.cells #[x2,y2] T)).alloc (.cells #[x3,y3] T)) w']:
  (w'.cell? ⟨w.heap.size,0,none⟩=some x0/\w'.cell? ⟨w.heap.size,1,none⟩=some y0/\w'.cell? ⟨w.heap.size+1,0,none⟩=some x1/\w'.cell? ⟨w.heap.size+1,1,none⟩=some y1)/\
  (w'.heap[w.heap.size+1+1]? =some (.cells #[x2,y2] T (0,0))/\w'.cell? ⟨w.heap.size+1+1,0,none⟩=some x2/\w'.cell? ⟨w.heap.size+1+1,1,none⟩=some y2/\w'.frozen? ⟨w.heap.size+1+1,0,none⟩=false/\w'.frozen? ⟨w.heap.size+1+1,1,none⟩=false/\w.heap.size+1+1<w'.heap.size)/\
  (w'.heap[w.heap.size+1+1+1]? =some (.cells #[x3,y3] T (0,0))/\w'.cell? ⟨w.heap.size+1+1+1,0,none⟩=some x3/\w'.cell? ⟨w.heap.size+1+1+1,1,none⟩=some y3/\w'.frozen? ⟨w.heap.size+1+1+1,0,none⟩=false/\w'.frozen? ⟨w.heap.size+1+1+1,1,none⟩=false/\w.heap.size+1+1+1<w'.heap.size):=by
 have h2:Ext ((w.alloc (.cells #[x0,y0] T)).alloc (.cells #[x1,y1] T)) w':=Ext.trans Zi h;have h3:Ext (((w.alloc (.cells #[x0,y0] T)).alloc (.cells #[x1,y1] T)).alloc (.cells #[x2,y2] T)) w':=Ext.trans Zi h;exact⟨qx w w' x0 y0 x1 y1 T T,jt w w' (.cells #[x0,y0] T) (.cells #[x1,y1] T) x2 y2 T,Jd (((w.alloc (.cells #[x0,y0] T)).alloc (.cells #[x1,y1] T)).alloc (.cells #[x2,y2] T)) w' _ x3 y3 T (by simp)⟩
theorem qe{o:Obj}(h:w.heap[s]? =some o)(hp:s≠p.block)(u:Value):(w.setCell p u).heap[s]? =some o:=(Below.heap_setCell w p u s hp).trans h
theorem IntV.boxed4{g:Bool}(hz:IntV w g B k d z){s':Nat}(hss:s≠s'){T':TypeId}(hT:271≠T)(hT':271≠T')(q:w.heap[s]? =some (.cells cs T (0,0)))(q':w.heap[s']? =some (.cells cs' T' (0,0)))(u v u' v':Value):
  IntV ((((w.setCell ⟨s,0,none⟩ u).setCell ⟨s,1,none⟩ v).setCell ⟨s',0,none⟩ u').setCell ⟨s',1,none⟩ v') g B k d z:=
 (hz.boxed hT q u v).boxed hT' (qe (qe q' (fun h=>hss h.symm) _) (fun h=>hss h.symm) _) u' v'
theorem zfn(x y:Int)(hx:0<=x)(hy:y≠0):zq (decide (y<0)) ((x.natAbs:Int) / y.natAbs)=x / y/\(x.natAbs:Int)%y.natAbs=x%y:=by
 have e1:(x.natAbs:Int)=x:=by omega
 rw[e1];rcases(by omega:(y.natAbs:Int)=y∨(y.natAbs:Int)=-y) with h|h
 ·have:¬y<0:=by omega
  rw[h];simp[zq,this]
 ·have:y<0:=by omega
  rw[h];simp[zq,this,Int.ediv_neg,Int.emod_neg]
theorem zfo(x y:Int)(hx:x<0)(hy:y≠0)(hr:(x.natAbs:Int)%y.natAbs=0):zq (!decide (y<0)) ((x.natAbs:Int) / y.natAbs)=x / y/\(x.natAbs:Int)%y.natAbs=x%y:=by
 have e1:(x.natAbs:Int)=-x:=by omega
 have hd:(y.natAbs:Int)∣x:=by
  have:=Int.dvd_of_emod_eq_zero hr;rw[e1]at this;exact(Int.dvd_neg).1 this
 rw[hr,e1];rcases(by omega:(y.natAbs:Int)=y∨(y.natAbs:Int)=-y) with h|h
 ·have:¬y<0:=by omega
  rw[h]at hd|-;simp[zq,this,Int.neg_ediv_of_dvd hd,Int.emod_eq_zero_of_dvd hd]
 ·have:y<0:=by omega
  rw[h]at hd|-
  have hd':y∣x:=(Int.neg_dvd).1 hd;simp[zq,this,Int.ediv_neg,Int.neg_ediv_of_dvd hd',Int.emod_eq_zero_of_dvd hd']
theorem zfp(x y:Int)(hx:x<0)(hy:y≠0)(hr:(x.natAbs:Int)%y.natAbs≠0):zq (!decide (y<0)) ((x.natAbs:Int) / y.natAbs+1)=x / y/\(y.natAbs:Int)-(x.natAbs:Int)%y.natAbs=x%y:=by
 have hY:0<(y.natAbs:Int):=by omega
 generalize hYY:(y.natAbs:Int)=Y at*
 have e1:(x.natAbs:Int)=-x:=by omega
 rw[e1]at hr|-
 have h1:=Int.emod_nonneg (-x) (show Y≠0 by omega);have h2:=Int.emod_lt_of_pos (-x) hY;have h3:Y*(-x / Y)+-x%Y=-x:=Int.mul_ediv_add_emod (-x) Y;have hq:x / Y=-(-x / Y+1)/\x%Y=Y- -x%Y:=by
  have h4:x=(Y- -x%Y)+Y*(-(-x / Y+1)):=by
   rw[Int.mul_neg,Int.mul_add,Int.mul_one];omega
  constructor
  ·conv=>lhs;rw[h4]
   rw[Int.add_mul_ediv_left _ _ (by omega),Int.ediv_eq_zero_of_lt (by omega) (by omega)];omega
  ·conv=>lhs;rw[h4]
   rw[Int.add_mul_emod_self_left,Int.emod_eq_of_lt (by omega) (by omega)]
 rcases(by omega:Y=y∨Y=-y) with h|h
 ·have:¬y<0:=by omega
  rw[<-h];rw[hq.1,hq.2];simp[zq];omega
 ·have hy':y<0:=by omega
  have:y=-Y:=by omega
  rw[this,Int.ediv_neg,Int.emod_neg,hq.1,hq.2];simp[zq];omega
theorem zkj(w:World):NatV (w.alloc (.cells #[.int .u32 1] 271)) (some ⟨w.heap.size,0,none⟩) 1 1 1:=
 ⟨[1],rfl,Arr.new w 271 #[.int .u32 1],Limbs.cons (by omega) Limbs.nil,by simp[Tight],by simp[val],Zr,by omega⟩
theorem zkk(ha:IntV w0 na A n c x)(hb:IntV w1 nb B k d y)
  (h1:x.natAbs<18446744073709551616) (hy0:y≠0) (h2:y.natAbs<18446744073709551616) [hx:Ext w0 w] [hy:Ext w1 w]:
  Cq 259 #[.agg #[.bool na,.slice A n c],.agg #[.bool nb,.slice B k d]] w (zc1 w (x / y) (x%y) true):=by
 have hn2:n<=2:=ha.len (k:=2) (by omega);have hk2:k<=2:=hb.len (k:=2) (by omega);have hk0:((k:Int)==0)=false:=by simp;exact fun h=>hy0 (hb.zero_iff.1 h)
 have hna:=ha.neg_eq;have hnb:=hb.neg_eq;have hdn:=zki (w:=(((w.alloc (.cells #[.bool na,.slice A n c] 149)).alloc (.cells #[.bool nb,.slice B k d] 149)).alloc (.cells #[.bool false,.slice none 0 0] 149)).alloc (.cells #[.bool false,.slice none 0 0] 149)) ha.nat hb.nat (by omega) (by omega) (by omega);have hr0:=Int.emod_nonneg (x.natAbs:Int) (show (y.natAbs:Int)≠0 by omega);have hr1:=Int.emod_lt_of_pos (x.natAbs:Int) (show 0<(y.natAbs:Int) by omega)
 have hq0:0<=(x.natAbs:Int) / y.natAbs:=Int.ediv_nonneg (by omega) (by omega);have hq1:(x.natAbs:Int) / y.natAbs<=x.natAbs:=Int.ediv_le_self _ (by omega);by_cases zsa:x<0
 ·obtain rfl:na=true:=by simp[hna,zsa]
  by_cases hrz:(x.natAbs:Int)%y.natAbs=0
  ·have HE:=Zh (zfo x y zsa hy0 hrz);rw[<-hnb]at HE;have HR:=Zh hrz;generalize (x.natAbs:Int) / y.natAbs=q at*
   generalize (x.natAbs:Int)%y.natAbs=r at*
   have HD:=Zh hdn;clear hna hnb hdn hrz;go_enter Tryz.func259,Tryz.ntmps259;go_wp2_with fail
   refine(Qa hb).mono ?_;rintro e w' ⟨rfl,rfl⟩;go_wp2_with fail
   refine(Qa ha).mono ?_;rintro e w' ⟨rfl,rfl⟩;go_wp2_with fail
   refine HD.out.mono ?_;rintro e w2 ⟨B2,n2,d2,B3,n3,d3,rfl,hq,hr,hs2⟩;obtain⟨⟨c1,c2,c3,c4⟩,-,-⟩:=jc w w2 (.bool true) (.slice A n c) (.bool nb) (.slice B k d) (.bool false) (.slice none 0 0) (.bool false) (.slice none 0 0) 149;have hn3:n3=0:=hr.zero_iff.2 HR.out;subst hn3;go_wp2_with fail
   refine(JI _ hq).mono ?_;rintro e w4 ⟨g4,B4,n4,d4,rfl,hz4,hs4⟩;go_wp2_with fail
   refine(JI _ hr).mono ?_;rintro e w5 ⟨g5,B5,n5,d5,rfl,hz5,hs5⟩;obtain⟨-,⟨p0,p1,p2,p3,p4,p5⟩,⟨q0,q1,q2,q3,q4,q5⟩⟩:=jc w w5 (.bool true) (.slice A n c) (.bool nb) (.slice B k d) (.bool false) (.slice none 0 0) (.bool false) (.slice none 0 0) 149;have P0:=Zh p0;have Q0:=Zh q0;clear p0 q0;go_wp2;refine bodyPost_ret (v:= .tuple #[.agg #[.bool g4,.slice B4 n4 d4],.agg #[.bool g5,.slice B5 n5 d5],.bool true]) (by simp[results,Tryz.results259,go_sem,p1,p2,q1,q2]) rfl ⟨_,_,_,_,_,_,_,_,rfl,?_,?_,Step.of _ _⟩
   ·rw[<-HE.out.1];exact(hz4.ext hs5.ext).boxed4 (by omega) (by decide) (by decide) P0.out Q0.out _ _ _ _
   ·rw[<-HE.out.2];exact hz5.boxed4 (by omega) (by decide) (by decide) P0.out Q0.out _ _ _ _
  ·have HE:=Zh (zfp x y zsa hy0 hrz);rw[<-hnb]at HE;have HR:=Zh hrz;generalize (x.natAbs:Int) / y.natAbs=q at*
   generalize (x.natAbs:Int)%y.natAbs=r at*
   have HD:=Zh hdn;clear hna hnb hdn hrz;go_enter Tryz.func259,Tryz.ntmps259;go_wp2_with fail
   refine(Qa hb).mono ?_;rintro e w' ⟨rfl,rfl⟩;go_wp2_with fail
   refine(Qa ha).mono ?_;rintro e w' ⟨rfl,rfl⟩;go_wp2_with fail
   refine HD.out.mono ?_;rintro e w2 ⟨B2,n2,d2,B3,n3,d3,rfl,hq,hr,hs2⟩;obtain⟨⟨c1,c2,c3,c4⟩,-,-⟩:=jc w w2 (.bool true) (.slice A n c) (.bool nb) (.slice B k d) (.bool false) (.slice none 0 0) (.bool false) (.slice none 0 0) 149;have hn3:0<n3:=Nat.pos_of_ne_zero fun h=>HR.out (hr.zero_iff.1 h)
   have zxI:n2<=2:=hq.len (k:=2) (by omega);have zxJ:decide ((0:Int)<(n3:Int))=true:=by simpa using hn3
   go_wp2_with fail
   refine(zkf hq (zkj w2) (by omega) (by omega)).mono ?_;intro e w6 hr6;obtain⟨B6,n6,d6,rfl,hn6,hs6⟩:=NatV.of_ret hr6;clear hr6;go_wp2_with fail
   refine(zkg hb.nat hr (by omega) (by omega)).mono ?_;intro e w7 hr7;obtain⟨B7,n7,d7,rfl,hn7,hs7⟩:=NatV.of_ret hr7;clear hr7;go_wp2_with fail
   refine(JI _ hn6).mono ?_;rintro e w4 ⟨g4,B4,n4,d4,rfl,hz4,hs4⟩;go_wp2_with fail
   refine(JI _ hn7).mono ?_;rintro e w5 ⟨g5,B5,n5,d5,rfl,hz5,hs5⟩;obtain⟨-,⟨p0,p1,p2,p3,p4,p5⟩,⟨q0,q1,q2,q3,q4,q5⟩⟩:=jc w w5 (.bool true) (.slice A n c) (.bool nb) (.slice B k d) (.bool false) (.slice none 0 0) (.bool false) (.slice none 0 0) 149;have P0:=Zh p0;have Q0:=Zh q0;clear p0 q0;go_wp2;refine bodyPost_ret (v:= .tuple #[.agg #[.bool g4,.slice B4 n4 d4],.agg #[.bool g5,.slice B5 n5 d5],.bool true]) (by simp[results,Tryz.results259,go_sem,p1,p2,q1,q2]) rfl ⟨_,_,_,_,_,_,_,_,rfl,?_,?_,Step.of _ _⟩
   ·rw[<-HE.out.1];exact(hz4.ext hs5.ext).boxed4 (by omega) (by decide) (by decide) P0.out Q0.out _ _ _ _
   ·rw[<-HE.out.2];exact hz5.boxed4 (by omega) (by decide) (by decide) P0.out Q0.out _ _ _ _
 ·obtain rfl:na=false:=by simp[hna];omega
  ·have HE:=Zh (zfn x y (by omega) hy0);rw[<-hnb]at HE;generalize (x.natAbs:Int) / y.natAbs=q at*
   generalize (x.natAbs:Int)%y.natAbs=r at*
   have HD:=Zh hdn;clear hna hnb hdn;go_enter Tryz.func259,Tryz.ntmps259;go_wp2_with fail
   refine(Qa hb).mono ?_;rintro e w' ⟨rfl,rfl⟩;go_wp2_with fail
   refine(Qa ha).mono ?_;rintro e w' ⟨rfl,rfl⟩;go_wp2_with fail
   refine HD.out.mono ?_;rintro e w2 ⟨B2,n2,d2,B3,n3,d3,rfl,hq,hr,hs2⟩;obtain⟨⟨c1,c2,c3,c4⟩,-,-⟩:=jc w w2 (.bool false) (.slice A n c) (.bool nb) (.slice B k d) (.bool false) (.slice none 0 0) (.bool false) (.slice none 0 0) 149;go_wp2_with fail
   refine(JI _ hq).mono ?_;rintro e w4 ⟨g4,B4,n4,d4,rfl,hz4,hs4⟩;go_wp2_with fail
   refine(JI _ hr).mono ?_;rintro e w5 ⟨g5,B5,n5,d5,rfl,hz5,hs5⟩;obtain⟨-,⟨p0,p1,p2,p3,p4,p5⟩,⟨q0,q1,q2,q3,q4,q5⟩⟩:=jc w w5 (.bool false) (.slice A n c) (.bool nb) (.slice B k d) (.bool false) (.slice none 0 0) (.bool false) (.slice none 0 0) 149;have P0:=Zh p0;have Q0:=Zh q0;clear p0 q0;go_wp2;refine bodyPost_ret (v:= .tuple #[.agg #[.bool g4,.slice B4 n4 d4],.agg #[.bool g5,.slice B5 n5 d5],.bool true]) (by simp[results,Tryz.results259,go_sem,p1,p2,q1,q2]) rfl ⟨_,_,_,_,_,_,_,_,rfl,?_,?_,Step.of _ _⟩
   ·rw[<-HE.out.1];exact(hz4.ext hs5.ext).boxed4 (by omega) (by decide) (by decide) P0.out Q0.out _ _ _ _
   ·rw[<-HE.out.2];exact hz5.boxed4 (by omega) (by decide) (by decide) P0.out Q0.out _ _ _ _
theorem jd:(Tryz.prog.info? 149).map (fun i=>(i.zero,i.size,i.bytes))=some (some (.agg #[.bool false,.slice none 0 0]),2,32):=by kernel_rfl
theorem zaW:(Tryz.prog.info? 94).map (fun i=>(i.zero,i.size,i.bytes))=some (some (.slice none 0 0),1,24):=by kernel_rfl
theorem zc2:(Tryz.prog.info? 79).map (fun i=>(i.zero,i.size,i.bytes))=some (some (.slice none 0 0),1,24):=by kernel_rfl
theorem Qb:(Tryz.prog.info? 2).map (fun i=>(i.zero,i.size,i.bytes))=some (some (.int .i64 0),1,8):=by kernel_rfl
theorem ju:(Tryz.prog.info? 3).map (fun i=>(i.zero,i.size,i.bytes))=some (some (.int .i64 0),1,8):=by kernel_rfl
theorem Qc:(Tryz.prog.info? 35).map (fun i=>(i.zero,i.size,i.bytes))=some (some (.slice none 0 0),1,24):=by kernel_rfl
def VRow(w:World)(g:Nat)(e:TypeId)(vs:List Value):Prop:=w.heap[g]? =some (.cells vs.toArray e (0,0))
section
variable {w w':World} {g:Nat} {e:TypeId} {vs:List Value}
theorem VRow.lt(h:VRow w g e vs):g<w.heap.size:=zF h
theorem VRow.cell(h:VRow w g e vs){u:Value}(hu:vs[i]? =some u):w.cell? ⟨g,i,none⟩=some u:=by
 rw[cell_of_row w g i _ e (0,0) h];simpa using hu
theorem VRow.frozen(h:VRow w g e vs)(i:Nat):w.frozen? ⟨g,i,none⟩=false:=by
 unfold VRow at h;simp[World.frozen?,h]
theorem VRow.set(h:VRow w g e vs)(i:Nat)(u:Value):VRow (w.setCell ⟨g,i,none⟩ u) g e (vs.set i u):=by
 unfold VRow at h|-
 rw[ze4 h];simp
theorem VRow.ext(h:VRow w g e vs)(hx:Ext w w'):VRow w' g e vs:=zj hx h
theorem VRow.far(h:VRow w g e vs)(hp:g≠p.block)(u:Value):VRow (w.setCell p u) g e vs:=(Below.heap_setCell w p u g hp).trans h
theorem VRow.new(w:World)(e:TypeId)(cs:Array Value):VRow (w.alloc (.cells cs e)) w.heap.size e cs.toList:=heap_alloc_new w _
theorem VRow.arr(h:VRow w g e vs):Arr w (some ⟨g,0,none⟩) e vs:=fun _=>⟨g,0,_,_,rfl,h,fun j u hu=>by simpa using hu⟩
end
def Zb(z:Array Value)(n:Nat):Array Value:=madeCells z n
theorem qf{z:Value}{size by_:Nat}(ht:P.underlying t=some (.slice e))(hi:(P.info? e).map (fun i=>(i.zero,i.size,i.bytes))=some (some z,size,by_))(h8:by_<=128)
  (n:Int) (h0:0<=n) (h1:n<=1099511627776) (w:World):
  (Instr.makeSlice t (.int .i64 n) (.int .i64 n)).run P w= .ok (.slice (some ⟨w.heap.size,0,none⟩) n.toNat n.toNat) (w.alloc (.cells (Zb z.cells (n.toNat*size)) e)):=by
 obtain⟨i,hi1,hz,hs,hb⟩:=info_parts hi;have hb':(i.bytes:Int)*n<=128*n:=Int.mul_le_mul_of_nonneg_right (by omega) h0;rw[run_make (P:=P) w t e i z ht hi1 hz .i64 .i64 n n h0 (Int.le_refl _) (by omega) (by omega),hs];rfl
theorem zac(z:Array Value)(n:Nat):(Zb z n).toList.length=n:=by simp[Zb,size_madeCells]
theorem jw(z:Value)(n:Nat):(Zb #[z] n).toList=List.replicate n z:=toList_madeCells_one z n
theorem zbR(z:Array Value)(n i:Nat)(hi:i<n)(hz:0<z.size):(Zb z n).toList[i]? =some (z[i%z.size]'(Nat.mod_lt _ hz)):=by
 simp[Zb,madeCells,hi,Nat.mod_lt _ hz]
def qJ(f:FuncId):Prop:=∀(args:Array Value)(w:World),(callFunc f args).run Tryz.prog w= .ok (.enter f args) w
theorem JJ {f : FuncId} {fn : Func} (hf : Tryz.prog.funcs[f]? = some fn) (zwg : (fn.name == "runtime.NumGoroutine") = false) (hb : fn.body.isNone = false) : qJ f := fun args w => by
 have h1 : fn.name ≠ "runtime.NumGoroutine" := by simpa using zwg
 have h2:¬fn.body=none:=by intro h;rw[h]at hb;simp at hb
 simp[callFunc,hf,h1,h2]
def IntsV(w:World)(A:Option Addr)(zs:List Int):Prop:=
 ∃vs:List Value,vs.length=zs.length*2/\Arr w A 149 vs/\∀(i:Nat)(z:Int),zs[i]? =some z->∃g B n c,vs[i*2]? =some (.bool g)/\vs[i*2+1]? =some (.slice B n c)/\IntV w g B n c z
theorem IntsV.ext(h:IntsV w A zs)(hx:Ext w w'):IntsV w' A zs:=by
 obtain⟨vs,h1,h2,h3⟩:=h;refine⟨vs,h1,h2.ext hx,fun i z hz=>?_⟩;obtain⟨g,B,n,c,a1,a2,a3⟩:=h3 i z hz;exact⟨g,B,n,c,a1,a2,a3.ext hx⟩
theorem IntsV.grow(h:IntsV w A zs)(hg:Grow zf e w w')(h1:149≠e)(h2:271≠e):IntsV w' A zs:=by
 obtain⟨vs,a1,a2,a3⟩:=h;refine⟨vs,a1,a2.grow hg h1,fun i z hz=>?_⟩;obtain⟨g,B,n,c,b1,b2,b3⟩:=a3 i z hz;exact⟨g,B,n,c,b1,b2,b3.grow hg h2⟩
theorem IntsV.at_(h:IntsV w A zs)(hi:i<zs.length):
  ∃b o g B n c,A=some ⟨b,o,none⟩/\w.cell? ⟨b,o+i*2,none⟩=some (.bool g)/\w.cell? ⟨b,o+i*2+1,none⟩=some (.slice B n c)/\IntV w g B n c zs[i]/\b<w.heap.size:=by
 obtain⟨vs,a1,a2,a3⟩:=h;obtain⟨g,B,n,c,b1,b2,b3⟩:=a3 i zs[i] (by simp[hi]);obtain⟨b,o,rfl,c1,c2⟩:=a2.at_ b1;obtain⟨b',o',hh,d1,d2⟩:=a2.at_ b2;injection hh with hh
 injection hh with h1 h2
 subst h1 h2;exact⟨b,o,g,B,n,c,rfl,c1,by rw[Nat.add_assoc];exact d1,b3,c2⟩
theorem IntsV.nil(w:World)(A:Option Addr):IntsV w A []:=⟨[],rfl,Arr.nil,fun i z hz=>by simp at hz⟩
def MatV(w:World)(A:Option Addr)(m:List (List Int)):Prop:=
 ∃vs:List Value,vs.length=m.length/\Arr w A 94 vs/\∀(i:Nat)(r:List Int),m[i]? =some r->∃B c,vs[i]? =some (.slice B r.length c)/\IntsV w B r/\r.length<=c/\c<=9223372036854775807
theorem MatV.ext(h:MatV w A m)(hx:Ext w w'):MatV w' A m:=by
 obtain⟨vs,h1,h2,h3⟩:=h;refine⟨vs,h1,h2.ext hx,fun i z hz=>?_⟩;obtain⟨B,c,a1,a2,a3⟩:=h3 i z hz;exact⟨B,c,a1,a2.ext hx,a3⟩
theorem MatV.grow(h:MatV w A m)(hg:Grow zf e w w')(h0:94≠e)(h1:149≠e)(h2:271≠e):MatV w' A m:=by
 obtain⟨vs,a1,a2,a3⟩:=h;refine⟨vs,a1,a2.grow hg h0,fun i z hz=>?_⟩;obtain⟨B,c,b1,b2,b3⟩:=a3 i z hz;exact⟨B,c,b1,b2.grow hg h1 h2,b3⟩
theorem MatV.at_(h:MatV w A m)(hi:m[i]? =some r):
  ∃b o B c,A=some ⟨b,o,none⟩/\w.cell? ⟨b,o+i,none⟩=some (.slice B r.length c)/\IntsV w B r/\r.length<=c/\c<=9223372036854775807/\b<w.heap.size:=by
 obtain⟨vs,a1,a2,a3⟩:=h;obtain⟨B,c,b1,b2,b3,b4⟩:=a3 i r hi;obtain⟨b,o,hA,hc,hb⟩:=a2.at_ b1;exact⟨b,o,B,c,hA,hc,b2,b3,b4,hb⟩
def Mat64(w:World)(A:Option Addr)(m:List (List Int)):Prop:=
 ∃vs:List Value,vs.length=m.length/\Arr w A 35 vs/\∀(i:Nat)(r:List Int),m[i]? =some r->∃B c,vs[i]? =some (.slice B r.length c)/\Ints w B 2 .i64 r/\r.length<=c/\c<=9223372036854775807
theorem Mat64.ext(h:Mat64 w A m)(hx:Ext w w'):Mat64 w' A m:=by
 obtain⟨vs,h1,h2,h3⟩:=h;refine⟨vs,h1,h2.ext hx,fun i z hz=>?_⟩;obtain⟨B,c,a1,a2,a3⟩:=h3 i z hz;exact⟨B,c,a1,a2.ext hx,a3⟩
theorem Mat64.at_(h:Mat64 w A m)(hi:m[i]? =some r):
  ∃b o B c,A=some ⟨b,o,none⟩/\w.cell? ⟨b,o+i,none⟩=some (.slice B r.length c)/\Ints w B 2 .i64 r/\r.length<=c/\c<=9223372036854775807/\b<w.heap.size:=by
 obtain⟨vs,a1,a2,a3⟩:=h;obtain⟨B,c,b1,b2,b3,b4⟩:=a3 i r hi;obtain⟨b,o,hA,hc,hb⟩:=a2.at_ b1;exact⟨b,o,B,c,hA,hc,b2,b3,b4,hb⟩
def IntsA(w:World)(A:Option Addr)(l:List Int):Prop:=∃te,Ints w A te .i64 l
theorem IntsA.ext(h:IntsA w A l)(hx:Ext w w'):IntsA w' A l:=by
 obtain⟨te,h⟩:=h;exact⟨te,h.ext hx⟩
theorem IntsA.at_(h:IntsA w A l)(hi:i<l.length):∃b o x,A=some ⟨b,o,none⟩/\l[i]? =some x/\w.cell? ⟨b,o+i,none⟩=some (.int .i64 x)/\b<w.heap.size:=by
 obtain⟨te,h⟩:=h;exact h.at_ hi
def MatA(w:World)(A:Option Addr)(m:List (List Int)):Prop:=
 ∃(te:TypeId) (vs:List Value),vs.length=m.length/\Arr w A te vs/\∀(i:Nat)(r:List Int),m[i]? =some r->∃B c,vs[i]? =some (.slice B r.length c)/\IntsA w B r/\r.length<=c/\c<=9223372036854775807
theorem Mat64.a(h:Mat64 w A m):MatA w A m:=by
 obtain⟨vs,h1,h2,h3⟩:=h;refine⟨_,vs,h1,h2,fun i z hz=>?_⟩;obtain⟨B,c,a1,a2,a3⟩:=h3 i z hz;exact⟨B,c,a1,⟨_,a2⟩,a3⟩
theorem MatA.ext(h:MatA w A m)(hx:Ext w w'):MatA w' A m:=by
 obtain⟨te,vs,h1,h2,h3⟩:=h;refine⟨te,vs,h1,h2.ext hx,fun i z hz=>?_⟩;obtain⟨B,c,a1,a2,a3⟩:=h3 i z hz;exact⟨B,c,a1,a2.ext hx,a3⟩
theorem MatA.at_(h:MatA w A m)(hi:m[i]? =some r):
  ∃b o B c,A=some ⟨b,o,none⟩/\w.cell? ⟨b,o+i,none⟩=some (.slice B r.length c)/\IntsA w B r/\r.length<=c/\c<=9223372036854775807/\b<w.heap.size:=by
 obtain⟨te,vs,a1,a2,a3⟩:=h;obtain⟨B,c,b1,b2,b3,b4⟩:=a3 i r hi;obtain⟨b,o,hA,hc,hb⟩:=a2.at_ b1;exact⟨b,o,B,c,hA,hc,b2,b3,b4,hb⟩
def StV(w:World)(A:Option Addr)(s:List (List (List Int))):Prop:=
 ∃vs:List Value,vs.length=s.length/\Arr w A 79 vs/\∀(i:Nat)(m:List (List Int)),s[i]? =some m->∃B c,vs[i]? =some (.slice B m.length c)/\MatV w B m/\m.length<=c/\c<=9223372036854775807
theorem StV.ext{s:List (List (List Int))}(h:StV w A s)(hx:Ext w w'):StV w' A s:=by
 obtain⟨vs,h1,h2,h3⟩:=h;refine⟨vs,h1,h2.ext hx,fun i z hz=>?_⟩;obtain⟨B,c,a1,a2,a3⟩:=h3 i z hz;exact⟨B,c,a1,a2.ext hx,a3⟩
theorem StV.at_{s:List (List (List Int))}(h:StV w A s)(hi:s[i]? =some m):
  ∃b o B c,A=some ⟨b,o,none⟩/\w.cell? ⟨b,o+i,none⟩=some (.slice B m.length c)/\MatV w B m/\m.length<=c/\c<=9223372036854775807/\b<w.heap.size:=by
 obtain⟨vs,a1,a2,a3⟩:=h;obtain⟨B,c,b1,b2,b3,b4⟩:=a3 i m hi;obtain⟨b,o,hA,hc,hb⟩:=a2.at_ b1;exact⟨b,o,B,c,hA,hc,b2,b3,b4,hb⟩
section
variable {w w' w2:World} {zf:Nat} {e:TypeId}
theorem Grow.of_ext(h:Ext w w')(hb:zf<=w.heap.size):Grow zf e w w':=⟨h.below.mono hb,fun k hk _=>h.below.block k hk⟩
theorem Grow.trans(h:Grow zf e w w')(h':Ext w' w2)(hb:zf<=w.heap.size):Grow zf e w w2:=
 ⟨h.below.trans (h'.below.mono (Nat.le_trans hb h.below.size)),fun k hk hne=>(h'.below.block k (Nat.lt_of_lt_of_le hk h.below.size)).trans (h.typed k hk hne)⟩
theorem Grow.alloc(h:Grow zf e w w')(hb:zf<=w.heap.size)(o:Obj):Grow zf e w (w'.alloc o):=h.trans Zi hb
theorem Grow.setNew(h:Grow zf e w w')(hp:w.heap.size<=p.block)(hb:zf<=w.heap.size)(u:Value):Grow zf e w (w'.setCell p u):=
 ⟨h.below.setCell (Nat.le_trans hb hp) u,fun k hk hne=>(Below.heap_setCell w' p u k (by omega)).trans (h.typed k hk hne)⟩
theorem Grow.setOld(h:Grow zf e w w')(hg:w.heap[g]? =some (.cells cs e fr))(hb:zf<=g)(hp:p.block=g)(u:Value):Grow zf e w (w'.setCell p u):=
 ⟨h.below.setCell (by omega) u,fun k hk hne=>(Below.heap_setCell w' p u k (fun hh=>by rw[hp]at hh;subst hh;exact hne _ _ hg)).trans (h.typed k hk hne)⟩
end
def tab(F:Nat->Nat->Int)(zd cols:Nat):List (List Int):=(List.range zd).map fun i=>(List.range cols).map fun j=>F i j
theorem QR(F:Nat->Nat->Int)(zd cols i:Nat)(hi:i<zd):(tab F zd cols)[i]? =some ((List.range cols).map fun j=>F i j):=by simp[tab,hi]
theorem zw(F:Nat->Nat->Int)(zd cols:Nat):(tab F zd cols).length=zd:=by simp[tab]
def jx(w:World)(m:List (List Int))(e:Ending)(w':World):Prop:=∃A c,e= .returned (.slice A m.length c)/\MatV w' A m/\m.length<=c/\c<=9223372036854775807/\Step w w'
def Heads(w:World)(G:Nat)(F:Nat->Nat->Int)(zd cols k:Nat):Prop:=
 ∃hd:List Value,VRow w G 94 hd/\hd.length=zd/\(∀i,i<k->∃B,hd[i]? =some (.slice B cols cols)/\IntsV w B ((List.range cols).map fun j=>F i j))/\∀i,k<=i->i<zd->hd[i]? =some (.slice none 0 0)
def Cells2(w:World)(g:Nat)(F:Nat->Int)(cols q:Nat):Prop:=
 ∃cs:List Value,VRow w g 149 cs/\cs.length=cols*2/\(∀j,j<q->∃s B n c,cs[j*2]? =some (.bool s)/\cs[j*2+1]? =some (.slice B n c)/\IntV w s B n c (F j))/\∀j,q<=j->j<cols->cs[j*2]? =some (.bool false)/\cs[j*2+1]? =some (.slice none 0 0)
theorem Heads.made(w:World)(F:Nat->Nat->Int)(zd cols:Nat):Heads (w.alloc (.cells (Zb #[.slice none 0 0] (zd*1)) 94)) w.heap.size F zd cols 0:=by
 refine⟨_,VRow.new w _ _,?_,fun i hi=>absurd hi (by omega),fun i _ hi=>?_⟩
 ·rw[zac];omega
 ·rw[jw,Nat.mul_one,List.getElem?_replicate];simp[hi]
theorem Cells2.made(w:World)(F:Nat->Int)(cols:Nat):Cells2 (w.alloc (.cells (Zb #[.bool false,.slice none 0 0] (cols*2)) 149)) w.heap.size F cols 0:=by
 refine⟨_,VRow.new w _ _,zac _ _,fun i hi=>absurd hi (by omega),fun j _ hj=>⟨?_,?_⟩⟩
 ·rw[zbR _ _ _ (by omega) (by simp)];simp
 ·rw[zbR _ _ _ (by omega) (by simp)];simp
theorem Cells2.full(h:Cells2 w g F cols cols):IntsV w (some ⟨g,0,none⟩) ((List.range cols).map F):=by
 obtain⟨cs,h1,h2,h3,h4⟩:=h;refine⟨cs,by simp[h2],h1.arr,fun i z hz=>?_⟩;have hi:i<cols:=by
  rcases Zl i cols with hi|hi
  ·exact hi
  ·rw[getElem?_eq_none (by simpa using hi)]at hz;cases hz
 simp[hi]at hz;subst hz;exact h3 i hi
theorem Cells2.ext(h:Cells2 w g F cols q)(hx:Ext w w'):Cells2 w' g F cols q:=by
 obtain⟨cs,h1,h2,h3,h4⟩:=h;refine⟨cs,h1.ext hx,h2,fun j hj=>?_,h4⟩;obtain⟨s,B,n,c,a1,a2,a3⟩:=h3 j hj;exact⟨s,B,n,c,a1,a2,a3.ext hx⟩
theorem Cells2.put(h:Cells2 w g F cols q)(hq:q<cols){s:Bool}(hz:IntV w s B n c (F q)):
  Cells2 ((w.setCell ⟨g,q*2,none⟩ (.bool s)).setCell ⟨g,q*2+1,none⟩ (.slice B n c)) g F cols (q+1):=by
 obtain⟨cs,h1,h2,h3,h4⟩:=h;have key:∀{s':Bool}{B':Option Addr}{n' c':Nat}{z:Int},IntV w s' B' n' c' z->IntV ((w.setCell ⟨g,q*2,none⟩ (.bool s)).setCell ⟨g,q*2+1,none⟩ (.slice B n c)) s' B' n' c' z:=fun hz'=>
  (hz'.setCell (p:=⟨g,q*2,none⟩) h1 (by decide) _).setCell (p:=⟨g,q*2+1,none⟩) (h1.set _ _) (by decide) _
 refine⟨_,(h1.set (q*2) (.bool s)).set (q*2+1) (.slice B n c),by simp[h2],fun j hj=>?_,fun j hj1 hj2=>?_⟩
 ·rcases Zl j q with hjq|hjq
  ·obtain⟨s',B',n',c',a1,a2,a3⟩:=h3 j hjq;refine⟨s',B',n',c',?_,?_,key a3⟩
   ·rw[getElem?_set_ne (by omega),getElem?_set_ne (by omega)];exact a1
   ·rw[getElem?_set_ne (by omega),getElem?_set_ne (by omega)];exact a2
  ·obtain rfl:j=q:=by omega
   refine⟨s,B,n,c,?_,?_,key hz⟩
   ·rw[getElem?_set_ne (by omega),getElem?_set_self (by omega)]
   ·rw[getElem?_set_self (by rw[List.length_set];omega)]
 ·obtain⟨a1,a2⟩:=h4 j (by omega) hj2;constructor
  ·rw[getElem?_set_ne (by omega),getElem?_set_ne (by omega)];exact a1
  ·rw[getElem?_set_ne (by omega),getElem?_set_ne (by omega)];exact a2
theorem Cells2.cells(h:Cells2 w g F cols q)(hq:q<cols):
  w.cell? ⟨g,q*2,none⟩=some (.bool false)/\w.cell? ⟨g,q*2+1,none⟩=some (.slice none 0 0)/\w.frozen? ⟨g,q*2,none⟩=false/\w.frozen? ⟨g,q*2+1,none⟩=false/\g<w.heap.size:=by
 obtain⟨cs,h1,h2,h3,h4⟩:=h;obtain⟨a1,a2⟩:=h4 q Zr hq;exact⟨h1.cell a1,h1.cell a2,h1.frozen _,h1.frozen _,h1.lt⟩
theorem Cells2.far(h:Cells2 w g F cols q){e':TypeId}(hp:w.heap[p.block]? =some (.cells cs' e' fr))(hne:149≠e')(zwh:271≠e')(u:Value):Cells2 (w.setCell p u) g F cols q:=by
 obtain⟨cs,h1,h2,h3,h4⟩:=h;have hg:g≠p.block:=fun hh=>by
  rw[<-hh]at hp;unfold VRow at h1;rw[h1]at hp;injection hp with hp
  injection hp with _ he
  exact hne he
 refine⟨cs,h1.far hg u,h2,fun j hj=>?_,h4⟩;obtain⟨s',B',n',c',a1,a2,a3⟩:=h3 j hj;exact⟨s',B',n',c',a1,a2,a3.setCell hp zwh u⟩
theorem qy(w:World)(p:Addr)(u:Value):(w.setCell p u).heap.size=w.heap.size:=by simp[World.setCell]
set_option maxRecDepth 10000 in
theorem zkl(f:FuncId)(caps:Array Value)(zd cols:Nat)(h1:zd<=1000000)(h2:cols<=1000000)(hf:qJ f)(F:Nat->Nat->Int)
  (H:∀(i j:Nat)(W:World),i<zd->j<cols->Ext w W->Cq f (#[.int .i64 i,.int .i64 j]++caps) W (zD W (F i j))):
  Cq 218 #[.int .i64 zd,.int .i64 cols,.func (.func f) #[] caps] w (jx w (tab F zd cols)):=by
 have hmk:=qf (P:=Tryz.prog) Tryz.underlying79 zaW (by omega) (zd:Int) (by omega) (by omega);have ztd:=qf (P:=Tryz.prog) Tryz.underlying94 jd (by omega) (cols:Int) (by omega) (by omega);have HH:=Zh H;have HF:=Zh hf;clear H hf;go_enter Tryz.func218,Tryz.ntmps218;go_wp2;go_loopw [8,9,14] (fun _ _ i wr=>∃k:Nat,k<=zd/\i= .int .i64 k/\Heads wr w.heap.size F zd cols k/\Ext w wr) (fun _ _ i _=>zd-(intOf i).toNat)
 case atStart=>exact⟨0,by omega,rfl,by simpa[Value.cells] using Heads.made w F zd cols,Zi⟩
 case round=>
  obtain⟨k,hk,rfl,hH,hxr⟩:=hrel;by_cases zss:k<zd
  ·obtain⟨hd,v1,v2,v3,v4⟩:=hH;have hc1:=v1.cell (v4 k Zr zss);have hc2:=v1.frozen k;have hsz:=v1.lt;obtain⟨wo,rfl⟩:∃wo:World,wo=wr:=⟨_,rfl⟩;have V2:=Zh v2;have V3:=Zh v3;have V4:=Zh v4;clear v2 v3 v4;go_wp2;go_loopw [9,27] (fun _ j wr=>∃q:Nat,q<=cols/\j= .int .i64 q/\Grow w.heap.size 94 wo wr/\VRow wr w.heap.size 94 (hd.set k (.slice (some ⟨wo.heap.size,0,none⟩) cols cols))/\Cells2 wr wo.heap.size (F k) cols q/\Ext w wr) (fun _ j _=>cols-(intOf j).toNat)
   case atStart=>
    refine⟨0,by omega,rfl,?_,?_,?_,?_⟩
    ·exact((Grow.refl _ _ _).setOld (p:=⟨w.heap.size,k,none⟩) v1 Zr rfl _).alloc hxr.size _
    ·exact(v1.set _ _).ext Zi
    ·have:=Cells2.made (wo.setCell ⟨w.heap.size,k,none⟩ (.slice (some ⟨wo.heap.size,0,none⟩) cols cols)) (F k) cols;rwa [qy]at this
    ·exact Zi
   case round=>
    obtain⟨q,hq,rfl,hG,hV,hC,hxq⟩:=hrel;by_cases hlt:q<cols
    ·have hkl:k<hd.length:=by have:=V2.out;omega
     have zr6:wr.cell? ⟨w.heap.size,k,none⟩=some (.slice (some ⟨wo.heap.size,0,none⟩) cols cols):=hV.cell (by rw[getElem?_set_self hkl]);obtain⟨c1,c2,c3,c4,c5⟩:=hC.cells hlt;go_wp2;have hcf:=HF.out;unfold qJ at hcf;have hne:w.heap.size≠wo.heap.size:=by omega
     have zs8:(hd.set k (.slice (some ⟨wo.heap.size,0,none⟩) cols cols))[k]? =some (.slice (some ⟨wo.heap.size,0,none⟩) cols cols):=by rw[getElem?_set_self hkl]
     have HN:=Zh hne;have HS:=Zh zs8;clear hne zs8;go_region_held3 (fun w'=>w'.cell? ⟨w.heap.size,k,none⟩=some (.slice (some ⟨wo.heap.size,0,none⟩) cols cols))
      (first
       |exact(hV.ext Zi).cell HS.out
       |exact(((hV.ext Zi).far (p:=⟨wo.heap.size,q*2,none⟩) HN.out _).far (p:=⟨wo.heap.size,q*2+1,none⟩) HN.out _).cell HS.out)
      (first
       |(refine(HH.out _ _ _ zss hlt Zi).mono ?_;rintro e w2 ⟨g,B,k',d,rfl,hz,hs2⟩;obtain⟨d1,d2,d3,d4,d5⟩:=(hC.ext (Zi:Ext wr w2)).cells hlt))
     go_wp2;refine⟨⟨q+1,by omega,by go_num,?_,?_,?_,?_⟩,by simp[intOf]<;>omega⟩
     ·exact((hG.trans (Zi:Ext wr w2) hxr.size).setNew (p:=⟨wo.heap.size,q*2,none⟩) Zr hxr.size _).setNew (p:=⟨wo.heap.size,q*2+1,none⟩) Zr hxr.size _
     ·exact((hV.ext (Zi:Ext wr w2)).far (p:=⟨wo.heap.size,q*2,none⟩) HN.out _).far (p:=⟨wo.heap.size,q*2+1,none⟩) HN.out _
     ·exact(hC.ext (Zi:Ext wr w2)).put hlt hz
     ·exact((Zi:Ext w w2).setCell (p:=⟨wo.heap.size,q*2,none⟩) hxr.size _).setCell (p:=⟨wo.heap.size,q*2+1,none⟩) hxr.size _
    ·obtain rfl:q=cols:=by omega
     have zte:=hC.full;go_wp2;refine⟨⟨k+1,by omega,by go_num,⟨_,hV,by rw[List.length_set];exact V2.out,fun i hi=>?_,fun i hi1 hi2=>?_⟩,hxq⟩,by simp[intOf]<;>omega⟩
     ·have hkl:k<hd.length:=by have:=V2.out;omega
      rcases Zl i k with h|h
      ·obtain⟨B,b1,b2⟩:=V3.out i h;exact⟨B,by rw[getElem?_set_ne (by omega)];exact b1,b2.grow hG (by decide) (by decide)⟩
      ·obtain rfl:i=k:=by omega
       exact⟨_,by rw[getElem?_set_self hkl],zte⟩
     ·rw[getElem?_set_ne (by omega)];exact V4.out i (by omega) hi2
  ·obtain rfl:k=zd:=by omega
   have HHd:=Zh hH;clear hH;go_wp2;go_ret;obtain⟨hd,v1,v2,v3,v4⟩:=HHd.out;refine⟨_,k,by rw[zw];rfl,⟨hd,by rw[v2,zw],v1.arr,fun i r hr=>?_⟩,by rw[zw];omega,by omega,hxr.toStep⟩;have hi:i<k:=by
    rcases Zl i k with hi|hi
    ·exact hi
    ·rw[getElem?_eq_none (by rw[zw];exact hi)]at hr;cases hr
   rw[QR _ _ _ _ hi]at hr;injection hr with hr
   subst hr;obtain⟨B,b1,b2⟩:=v3 i hi;exact⟨B,cols,by simpa using b1,b2,by simp,by omega⟩
def Heads1(w:World)(G:Nat)(F:Nat->Nat->Int)(zd cols k:Nat):Prop:=
 ∃hd:List Value,VRow w G 35 hd/\hd.length=zd/\(∀i,i<k->∃B,hd[i]? =some (.slice B cols cols)/\Ints w B 2 .i64 ((List.range cols).map fun j=>F i j))/\∀i,k<=i->i<zd->hd[i]? =some (.slice none 0 0)
def Cells1(w:World)(g:Nat)(F:Nat->Int)(cols q:Nat):Prop:=Row w g 2 .i64 ((List.range q).map F++List.replicate (cols-q) 0)/\q<=cols
theorem Cells1.made(w:World)(F:Nat->Int)(cols:Nat):Cells1 (w.alloc (.cells (Zb #[.int .i64 0] (cols*1)) 2)) w.heap.size F cols 0:=by
 refine⟨?_,Nat.zero_le _⟩;have:(Zb #[.int .i64 0] (cols*1))=qS cols .i64:=by
  apply Array.ext';rw[jw];simp[qS]
 rw[this];simpa using Row.made w cols .i64 2
theorem Cells1.full(h:Cells1 w g F cols cols):Ints w (some ⟨g,0,none⟩) 2 .i64 ((List.range cols).map F):=by
 have:=h.1.ints;simpa using this
theorem Cells1.ext(h:Cells1 w g F cols q)(hx:Ext w w'):Cells1 w' g F cols q:=⟨h.1.ext hx,h.2⟩
theorem Cells1.put(h:Cells1 w g F cols q)(hq:q<cols):Cells1 (w.setCell ⟨g,q,none⟩ (.int .i64 (F q))) g F cols (q+1):=by
 refine⟨?_,hq⟩;have:=h.1.fill (by omega) (show ((List.range q).map F).length=q by simp) (F q);rw[List.range_succ,List.map_append,show cols-(q+1)=cols-q-1 by omega];exact this
theorem Cells1.cells(h:Cells1 w g F cols q)(hq:q<cols):
  w.cell? ⟨g,q,none⟩=some (.int .i64 0)/\w.frozen? ⟨g,q,none⟩=false/\g<w.heap.size:=by
 obtain⟨x,hx,hc⟩:=h.1.cell (i:=q) (by simp;omega);rw[List.getElem?_append_right (by simp)]at hx;have hx0:x=0:=List.eq_of_mem_replicate (Zm hx);subst hx0;exact⟨hc,h.1.frozen _,h.1.lt⟩
theorem Heads1.made(w:World)(F:Nat->Nat->Int)(zd cols:Nat):Heads1 (w.alloc (.cells (Zb #[.slice none 0 0] (zd*1)) 35)) w.heap.size F zd cols 0:=by
 refine⟨_,VRow.new w _ _,?_,fun i hi=>absurd hi (by omega),fun i _ hi=>?_⟩
 ·rw[zac];omega
 ·rw[jw,Nat.mul_one,List.getElem?_replicate];simp[hi]
def AllLen(m:List (List Int))(n:Nat):Prop:=∀r∈m,r.length=n
theorem zkm(h:MatA w0 A m)(n:Nat)(h1:1<=m.length)(h2:m.length<=16)(h3:1<=n)(h4:n<=16)(hn:AllLen m n)[hx:Ext w0 w]:
  Cq 217 #[.slice A m.length c] w (Zv w (.tuple #[.int .i64 m.length,.int .i64 n,.bool true])):=by
 have h0:=h.ext hx;have hg:∀(i:Nat)(r:List Int),m[i]? =some r->r.length=n:=fun i r hr=>hn r (Zm hr)
 obtain⟨b,o,B,c0,rfl,hc0,-,-,-,hb⟩:=h0.at_ (i:=0) (r:=m[0]) (by simp);rw[hg 0 m[0] (by simp)]at hc0;simp only[Nat.add_zero]at hc0;have HG:=Zh hg;clear hg hn;have hd1:decide ((m.length:Int)<1)=false:=by simp;omega
 have hd2:decide ((16:Int)<(m.length:Int))=false:=by simp;omega
 have hd3:decide ((n:Int)<1)=false:=by simp;omega
 have hd4:decide ((16:Int)<(n:Int))=false:=by simp;omega
 go_enter Tryz.func217,Tryz.ntmps217;go_wp2;go_loop [7,28] (fun _ i=>∃k:Nat,k<=m.length/\i= .int .i64 k) (fun _ i=>m.length-(intOf i).toNat)
 case atStart=>exact⟨0,by omega,rfl⟩
 case round=>
  obtain⟨k,hk,rfl⟩:=hrel;by_cases hlt:k<m.length
  ·obtain⟨b',o',B',c',hh,hc,-,-,-,-⟩:=h0.at_ (i:=k) (r:=m[k]) (by simp[hlt]);injection hh with hh
   injection hh with e1 e2
   subst e1 e2;rw[HG.out k m[k] (by simp[hlt])]at hc;go_wp2;exact⟨⟨k+1,by omega,by go_num⟩,by simp[intOf]<;>omega⟩
  ·go_wp2;go_ret3
   exact⟨rfl,rfl⟩
theorem zkn(h:MatA w0 A m)(i j:Nat)(r:List Int)(x:Int)(hr:m[i]? =some r)(hxr:r[j]? =some x)(hx0:-9223372036854775808<=x)(hx1:x<=9223372036854775807)
  (hp:w.cell? ⟨pb,0,none⟩=some (.slice A m.length c)) (hpb:pb<w.heap.size) [hx:Ext w0 w]:
  Cq 219 #[.int .i64 i,.int .i64 j,.pointer (some ⟨pb,0,none⟩)] w (zD w x):=by
 have h0:=h.ext hx;obtain⟨b,o,B,c0,rfl,hc0,hI,hc1,hc2,hb⟩:=h0.at_ hr;have hi:i<m.length:=(Zg.1 hr).1;have hj:j<r.length:=(Zg.1 hxr).1;obtain⟨b1,o1,x1,rfl,hx2,hc3,hb1⟩:=hI.at_ hj;have hxx:x1=x:=by rw[hx2]at hxr;injection hxr
 subst hxx;clear hx2 hxr hr;go_enter Tryz.func219,Tryz.ntmps219;go_wp2_with fail
 refine(zcU x1 hx0 hx1 _).mono ?_;rintro e w2 ⟨g,B2,k2,d2,rfl,hz,hs2⟩;obtain⟨q0,q1,q2,q3,q4,q5⟩:=qR w w2 (.bool false) (.slice none 0 0) 149;have Q0:=Zh q0;clear q0;go_wp2;exact bodyPost_ret (v:= .agg #[.bool g,.slice B2 k2 d2]) (by simp[results,Tryz.results219,go_sem,q1,q2]) rfl ⟨_,_,_,_,rfl,hz.boxed (by decide) Q0.out _ _,Step.of _ _⟩
def qT(m:List (List Int)):Prop:=∀r∈m,∀x∈r,-9223372036854775808<=x/\x<=9223372036854775807
def zko(w:World)(m:List (List Int))(b:Bool)(e:Ending)(w':World):Prop:=∃A c,e= .returned (.tuple #[.slice A m.length c,.bool b])/\MatV w' A m/\m.length<=c/\c<=9223372036854775807/\Step w w'
theorem JK(m:List (List Int))(n:Nat)(hn:AllLen m n):tab (fun i j=>(m.getD i []).getD j 0) m.length n=m:=by
 apply List.ext_getElem?;intro i;rcases Zl i m.length with hi|hi
 ·rw[QR _ _ _ _ hi];have hr:m[i]? =some m[i]:=by simp
  rw[hr];congr 1
  have hl:m[i].length=n:=hn _ (getElem_mem hi);apply List.ext_getElem?;intro j;rcases Zl j n with hj|hj
  ·simp[hj,hi,List.getD,hl]
  ·rw[getElem?_eq_none (by simpa using hj),getElem?_eq_none (by omega)]
 ·rw[getElem?_eq_none (by rw[zw];exact hi),getElem?_eq_none hi]
theorem zkp:qJ 219:=JJ Tryz.func219 (by kernel_rfl) (by kernel_rfl)
theorem zfq(h:MatA w0 A m)(n:Nat)(h1:1<=m.length)(h2:m.length<=16)(h3:1<=n)(h4:n<=16)(hn:AllLen m n)(h64:qT m)[hx:Ext w0 w]:
  Cq 171 #[.slice A m.length c] w (zko w m true):=by
 have hb:=zkl (w:=w.alloc (.cells #[.slice A m.length c] 25)) 219 #[.pointer (some ⟨w.heap.size,0,none⟩)] m.length n (by omega) (by omega) zkp (fun i j=>(m.getD i []).getD j 0)
  (fun i j W hi hj hW=>by
   have hr:m[i]? =some m[i]:=by simp
   have hl:m[i].length=n:=hn _ (getElem_mem hi);have hxj:m[i][j]? =some (m[i][j]'(by omega)):=by simp
   have zse:=h64 m[i] (getElem_mem hi) _ (getElem_mem (by omega:j<m[i].length));have e1:(m.getD i []).getD j 0=m[i][j]'(by omega):=by simp[List.getD,hi,hxj]
   rw[e1];have zsv:W.cell? ⟨w.heap.size,0,none⟩=some (.slice A m.length c):=by
    have:=zj hW (heap_alloc_new w _);simp[World.cell?,this]
   have hsz:w.heap.size<W.heap.size:=zF (zj hW (heap_alloc_new w _));have:Ext w W:=Ext.trans Zi hW;have:Ext w0 W:=hx.trans this;exact zkn h i j m[i] _ hr hxj zse.1 zse.2 zsv hsz)
 rw[JK m n hn]at hb;have HB:=Zh hb;clear hb;go_enter Tryz.func171,Tryz.ntmps171;go_wp2_with fail
 refine(zkm h n h1 h2 h3 h4 hn).mono ?_;rintro e w' ⟨rfl,rfl⟩;go_wp2_with fail
 refine HB.out.mono ?_;rintro e w2 ⟨A2,c2,rfl,hm,hc1,hc2,hs2⟩;go_wp2;go_ret2
 exact⟨A2,c2,rfl,hm,hc1,hc2,Step.of _ _⟩
theorem zfr(h:MatV w0 A m)(n:Nat)(h1:1<=m.length)(h2:m.length<=16)(h3:1<=n)(h4:n<=16)(hn:AllLen m n)[hx:Ext w0 w]:
  Cq 221 #[.slice A m.length c] w (Zv w (.tuple #[.int .i64 m.length,.int .i64 n,.bool true])):=by
 have h0:=h.ext hx;have hg:∀(i:Nat)(r:List Int),m[i]? =some r->r.length=n:=fun i r hr=>hn r (Zm hr)
 obtain⟨b,o,B,c0,rfl,hc0,-,-,-,hb⟩:=h0.at_ (i:=0) (r:=m[0]) (by simp);rw[hg 0 m[0] (by simp)]at hc0;simp only[Nat.add_zero]at hc0;have HG:=Zh hg;clear hg hn;have hd1:decide ((m.length:Int)<1)=false:=by simp;omega
 have hd2:decide ((16:Int)<(m.length:Int))=false:=by simp;omega
 have hd3:decide ((n:Int)<1)=false:=by simp;omega
 have hd4:decide ((16:Int)<(n:Int))=false:=by simp;omega
 go_enter Tryz.func221,Tryz.ntmps221;go_wp2;go_loop [7,28] (fun _ i=>∃k:Nat,k<=m.length/\i= .int .i64 k) (fun _ i=>m.length-(intOf i).toNat)
 case atStart=>exact⟨0,by omega,rfl⟩
 case round=>
  obtain⟨k,hk,rfl⟩:=hrel;by_cases hlt:k<m.length
  ·obtain⟨b',o',B',c',hh,hc,-,-,-,-⟩:=h0.at_ (i:=k) (r:=m[k]) (by simp[hlt]);injection hh with hh
   injection hh with e1 e2
   subst e1 e2;rw[HG.out k m[k] (by simp[hlt])]at hc;go_wp2;exact⟨⟨k+1,by omega,by go_num⟩,by simp[intOf]<;>omega⟩
  ·go_wp2;go_ret3
   exact⟨rfl,rfl⟩
theorem zkq(h:MatV w0 A m)(n:Nat)(h1:1<=m.length)(h2:m.length<=16)(h3:1<=n)(h4:n<=16)(hn:AllLen m n)[hx:Ext w0 w]:
  Cq 273 #[.slice A m.length c] w (Zv w (.tuple #[.int .i64 m.length,.int .i64 n,.bool true])):=by
 go_enter Tryz.func273,Tryz.ntmps273;go_wp2_with (go_at_call 221;refine(zfr h n h1 h2 h3 h4 hn).mono ?_;rintro e w' ⟨rfl,rfl⟩)
 go_ret3
 exact⟨rfl,rfl⟩
theorem zaX{b:Nat}{v:Value}(h:w.cell? ⟨b,i,none⟩=some v):w.setCell ⟨b,i,none⟩ v=w:=by
 unfold World.cell? at h;unfold World.setCell;have:(w.heap.modify b fun x=>match x with
   | .cells c elem frozen=> .cells (if (none:Option Nat).isSome then c else c.setIfInBounds i v) elem frozen
   |o=>o)=w.heap:=by
  apply Array.ext_getElem?;intro k;rw[Array.getElem?_modify];split
  ·rename_i hk
   subst hk
   cases hb:w.heap[b]? with
   |none=>simp
   |some o=>
    simp only[hb]at h
    cases o with
    |cells cs e fr=>
     simp at h;simp only[Option.map_some,Option.isSome_none,Bool.false_eq_true,if_false];congr 2
     apply Array.ext_getElem?;intro q;rw[Array.getElem?_setIfInBounds];split
     ·rename_i hq
      subst hq;obtain⟨hlt,hv⟩:=Array.getElem?_eq_some_iff.1 h;simp[hlt,hv]
     ·rfl
    |_=>simp at h
  ·rfl
 exact(congrArg (fun hp=>({w with heap:=hp}:World)) this).trans rfl
theorem zkr{ob:Nat}(h:MatV w0 A m)(i j:Nat)(r:List Int)(x:Int)(hr:m[i]? =some r)(hxr:r[j]? =some x)(hx0:-9223372036854775808<=x)(hx1:x<=9223372036854775807)
  (hp:w.cell? ⟨pb,0,none⟩=some (.slice A m.length c)) (ho:w.cell? ⟨ob,0,none⟩=some (.bool true)) (hob:ob<w.heap.size) (hof:w.frozen? ⟨ob,0,none⟩=false) [hx:Ext w0 w]:
  Cq 247 #[.int .i64 i,.int .i64 j,.pointer (some ⟨pb,0,none⟩),.pointer (some ⟨ob,0,none⟩)] w (zy w (.int .i64 x)):=by
 have h0:=h.ext hx;obtain⟨b,o,B,c0,rfl,hc0,hI,hc1,hc2,hb⟩:=h0.at_ hr;have hi:i<m.length:=(Zg.1 hr).1;have hj:j<r.length:=(Zg.1 hxr).1;obtain⟨b1,o1,g1,B1,n1,c1,rfl,hd1,hd2,hV,hb1⟩:=hI.at_ hj;have hxx:r[j]=x:=(Zg.1 hxr).2;rw[hxx]at hV;clear hxx hxr hr;go_enter Tryz.func247,Tryz.ntmps247;go_wp2_with fail
 refine(zfj hV hx0 hx1).mono ?_;rintro e w2 ⟨rfl,hs2⟩;have hx2:Ext w w2:=hs2.ext;have ho2:w2.cell? ⟨ob,0,none⟩=some (.bool true):=(hx2.below.cell (p:=⟨ob,0,none⟩) hob).trans ho;have hf2:w2.frozen? ⟨ob,0,none⟩=false:=(hx2.below.frozen (p:=⟨ob,0,none⟩) hob).trans hof;have zsC:=Zh (zaX ho2);go_wp2;go_ret;refine⟨rfl,?_⟩;rw[zsC.out];exact hs2
theorem zks:qJ 247:=JJ Tryz.func247 (by kernel_rfl) (by kernel_rfl)
def zkt(w:World)(m:List (List Int))(b:Bool)(e:Ending)(w':World):Prop:=∃A c,e= .returned (.tuple #[.slice A m.length c,.bool b])/\Mat64 w' A m/\m.length<=c/\c<=9223372036854775807/\Step w w'
theorem zaY(W w':World)(s:Nat)(x:Value)(T:TypeId)(hs:W.heap.size=s)[h:Ext (W.alloc (.cells #[x] T)) w']:
  w'.heap[s]? =some (.cells #[x] T (0,0))/\w'.cell? ⟨s,0,none⟩=some x/\w'.frozen? ⟨s,0,none⟩=false/\s<w'.heap.size:=by
 subst hs;have h0:w'.heap[W.heap.size]? =some (.cells #[x] T (0,0)):=zj h (heap_alloc_new W _);exact⟨h0,by simp[World.cell?,h0],by simp[World.frozen?,h0],(Array.getElem?_eq_some_iff.1 h0).1⟩
end Go.Proofs.YtpcgfpmiphiacaaGreat

import Derived.Test.YtgoaelchibpffaaGreatT05
set_option maxHeartbeats 8000000
set_option linter.unusedVariables false
set_option linter.unusedSimpArgs false
namespace Go.Proofs.YtgoaelchibpffaaGreat
open Go.RowKit
variable {na:Bool} {x y z:Int} {l m:List Int} {c c1 d k n ze:Nat} {A A1 B:Option Addr} {w w' w0 w1:World}
def NatX(ze:Nat)(w:World)(A:Option Addr)(n c:Nat)(z:Int):Prop:=∃l:List Int,n=l.length/\Own w ze 212 1 A n c (l.map (Value.int .u32))/\Limbs l/\Tight l/\val l=z
theorem NatX.nat(h:NatX ze w A n c z):NatV w A n c z:=by
 obtain⟨l,rfl,h1,h2,h3,h4⟩:=h;exact⟨l,rfl,h1.arr,h2,h3,h4,h1.cap.1,h1.cap.2⟩
theorem NatX.ext(h:NatX ze w A n c z)(hx:Ext w w'):NatX ze w' A n c z:=by
 obtain⟨l,rfl,h1,h2⟩:=h;exact⟨l,rfl,h1.ext hx,h2⟩
theorem NatX.lower{base':Nat}(h:NatX ze w A n c z)(hb:base'<=ze):NatX base' w A n c z:=by
 obtain⟨l,rfl,h1,h2⟩:=h;exact⟨l,rfl,h1.lower hb,h2⟩
theorem NatX.set(h:NatX ze w A n c z){p:Addr}(hp:p.block<ze)(u:Value):NatX ze (w.setCell p u) A n c z:=by
 obtain⟨l,rfl,h1,h2⟩:=h;refine⟨l,rfl,⟨h1.1,?_⟩,h2⟩;rcases h1.2 with hv|⟨g,cap,cur,hv,g1,g2,g3⟩
 ·exact .inl hv
 ·exact .inr ⟨g,cap,cur,hv,g1,(Below.heap_setCell w p u g aa).trans g2,g3⟩
def RetNatX(w:World)(z:Int)(e:Ending)(w':World):Prop:=∃B k d,e= .returned (.slice B k d)/\NatX w.heap.size w' B k d z/\Step w w'
theorem RetNatX.ret{e:Ending}(h:RetNatX w z e w'):Qk w z e w':=by
 obtain⟨B,k,d,rfl,hN,hs⟩:=h;obtain⟨l,rfl,h1,h2,h3,h4,h5,h6⟩:=hN.nat;exact⟨B,d,l,rfl,h1,h2,h3,h4,h5,h6,hs⟩
theorem zfS(hl:Limbs l)(ht:Tight l)(hv:val l=z)(zsq:Own w1 w.heap.size 212 1 A1 l.length c1 (l.map (Value.int .u32)))(hx:Ext w w1):RetNatX w z (.returned (.slice A1 l.length c1)) w1:=
 ⟨A1,l.length,c1,rfl,⟨l,rfl,zsq,hl,ht,hv⟩,hx.toStep⟩
theorem zfT(h0:Ints w0 A 212 .u32 l)(hl:Limbs l)(hc:l.length<=c)(hc2:c<=9223372036854775807)(h40:l.length<=1099511627776)[hx:Ext w0 w]:
  Cq 119 #[.slice A l.length c] w (RetNatX w (val l)):=by
 have h:=h0.ext hx;clear h0;go_enter Tryz.func119,Tryz.ntmps119;go_wp2;go_loop [3] (fun v=>∃m:Nat,m<=l.length/\Hid (val (l.take m)=val l)/\v= .int .i64 m) (fun v=>(intOf v).toNat)
 case atStart=>exact⟨l.length,Zr,by rw[List.take_length];exact Zh rfl,rfl⟩
 case round=>
  obtain⟨m,hm,hv,rfl⟩:=hrel;by_cases h0:0<m
  ·obtain⟨k,rfl⟩:∃k,m=k+1:=⟨m-1,aa⟩;obtain⟨b,o,x,rfl,hx',zsU,hb⟩:=h.at_ (i:=k) aa;have hx2:=Zh hx';clear hx';by_cases hx0:x=0
   ·subst hx0;go_wp2;exact⟨⟨k,aa,by rw[Hid,<-zfc hx2.out];exact hv,rfl⟩,by simp[intOf]⟩
   ·have hx1:(x==0)=false:=by simp[hx0]
    have ht:=Zh (zfb hx2.out hx0);clear hx0;go_wp2_with (at_builtin;refine Zp _ rfl _ _ 100 rfl w.heap.size 212 (.int .u32 0) 1 4 Tryz.underlying100 Tryz.infoU32 rfl aa aa none 0 0 [] rfl (Own.nil _ _ _ _) _ (k+1) c ((l.take (k+1)).map (Value.int .u32)) rfl (Ints.take h (k+1)) (by simp;try omega) zbR aa Zr ?_;intro A1 c1 w1 zsq hg)
    go_ret;have hxx:Ext w w1:=hg.ext Zi Zr;have e1:(l.take (k+1)).length=k+1:=JM hm;rw[List.nil_append,Nat.zero_add]at zsq;have:=zfS (hl.take (k+1)) ht.out hv.out (by rw[e1];exact zsq) hxx;rw[e1]at this;simpa using this
  ·obtain rfl:m=0:=aa
   go_wp2_with (at_builtin;refine Zp _ rfl _ _ 100 rfl w.heap.size 212 (.int .u32 0) 1 4 Tryz.underlying100 Tryz.infoU32 rfl aa aa none 0 0 [] rfl (Own.nil _ _ _ _) _ 0 c ((l.take (0)).map (Value.int .u32)) rfl (Ints.take h (0)) (by simp;try omega) zbR aa Zr ?_;intro A1 c1 w1 zsq hg)
   go_ret;have hxx:Ext w w1:=hg.ext Zi Zr;have e1:(l.take (0)).length=0:=JM hm;rw[List.nil_append,Nat.zero_add]at zsq;have:=zfS (hl.take (0)) (by simp[Tight]) hv.out (by rw[e1];exact zsq) hxx;rw[e1]at this;simpa using this
theorem zbY(h0:Ints w0 A 212 .u32 l)(hl:Limbs l)(hc:l.length<=c)(hc2:c<=9223372036854775807)(h40:l.length<=1099511627776)[hx:Ext w0 w]:
  Cq 119 #[.slice A l.length c] w (Qk w (val l)):=(zfT h0 hl hc hc2 h40).mono fun _ _ h=>h.ret
theorem za5(neg:Bool)(h:Ints w0 A 212 .u32 l)(hl:Limbs l)(hc:l.length<=c)(hc2:c<=9223372036854775807)(h40:l.length<=1099511627776)[hx:Ext w0 w]:
  Cq 179 #[.bool neg,.slice A l.length c] w (zz w (zp neg (val l))):=by
 have ht:=fun W(hxx:Ext w0 W)=>zbY (w:=W) h hl hc hc2 h40
 have HT:=Zh ht;have hv0:=QC hl;clear ht;obtain⟨z,hz⟩:=Yz (val l);rw[hz]at HT hv0|-
 by_cases h0:z=0
 ·subst h0;have HZ:Hid (zp neg 0=0):=Zh (by cases neg<;>rfl)
  cases neg
  all_goals
   go_enter Tryz.func179,Tryz.ntmps179;go_wp2_with (go_at_call 119;refine(HT.out _ Zi).mono ?_;rintro e w1 ⟨B,d,l1,rfl,hi1,hl1,ht1,hv1,hd1,hd2,hs1⟩;obtain rfl:l1=[]:=(zaW hl1 ht1).1 hv1;simp only[List.length_nil];obtain⟨q0,q1,q2,q3,q4,q5⟩:=qG w w1 (.bool false) (.slice none 0 0) 102;have Q0:=Zh q0;clear q0)
   refine bodyPost_ret (v:= .agg #[.bool false,.slice B 0 d]) (by simp[results,Tryz.results179,go_sem,q1,q2]) rfl ⟨_,_,_,_,rfl,?_,Step.of _ _⟩;rw[HZ.out];exact IntV.zero _ B d hd2
 ·have zsC:0<z:=aa
  have HP:Hid (∀(W:World)(B:Option Addr)(d:Nat)(l1:List Int),Ints W B 212 .u32 l1->Limbs l1->Tight l1->val l1=z->l1.length<=d->d<=9223372036854775807->IntV W neg B l1.length d (zp neg z)/\0<l1.length):=Zh (by
   intro W B d l1 a1 a2 a3 a4 a5 a6;refine⟨⟨l1,rfl,a2,a3,?_,?_,a1,a5,a6⟩,?_⟩
   ·rw[a4];cases neg<;>simp[zp]<;>omega
   ·cases neg<;>simp[zp]<;>omega
   ·rcases Nat.eq_zero_or_pos l1.length with hh|hh
    ·have:=List.eq_nil_of_length_eq_zero hh;subst this;simp[val]at a4;omega
    ·exact hh)
  clear hz h0
  cases neg
  all_goals
   go_enter Tryz.func179,Tryz.ntmps179;go_wp2_with (go_at_call 119;refine(HT.out _ Zi).mono ?_;rintro e w1 ⟨B,d,l1,rfl,hi1,hl1,ht1,hv1,hd1,hd2,hs1⟩;obtain⟨hiv,hlp⟩:=HP.out _ _ _ _ hi1 hl1 ht1 hv1 hd1 hd2;have HIV:=Zh hiv;obtain⟨k,hk⟩:=Yz l1.length;rw[hk]at hlp HIV|-;clear hiv hi1 hl1 ht1 hv1 hd1 hk;obtain⟨q0,q1,q2,q3,q4,q5⟩:=qG w w1 (.bool false) (.slice none 0 0) 102;have Q0:=Zh q0;clear q0)
   first
    |exact bodyPost_ret (v:= .agg #[.bool true,.slice B k d]) (by simp[results,Tryz.results179,go_sem,q1,q2]) rfl ⟨_,_,_,_,rfl,HIV.out.boxed ac Q0.out _ _,Step.of _ _⟩
    |exact bodyPost_ret (v:= .agg #[.bool false,.slice B k d]) (by simp[results,Tryz.results179,go_sem,q1,q2]) rfl ⟨_,_,_,_,rfl,HIV.out.boxed ac Q0.out _ _,Step.of _ _⟩
theorem zdo(g:Bool)(h:IntV w0 na A n c x)(h40:n<=1099511627776)[hx:Ext w0 w]:
  Cq 179 #[.bool g,.slice A n c] w (zz w (zp g x.natAbs)):=by
 obtain⟨l,rfl,h2,h3,h4,h5,h6,h7,h8⟩:=h;rw[<-h4];exact za5 g h6 h2 h7 h8 h40
theorem zfU(ha:IntV w0 na A n c x)(h40:n<=1099511627776)[hx:Ext w0 w]:
  Cq 118 #[.agg #[.bool na,.slice A n c]] w (zz w x):=by
 have hm:=fun W(hh:Ext w0 W)=>zdo (w:=W) na ha h40
 have HE:=Zh (show zp na x.natAbs=x by rw[ha.neg_eq];unfold zp;by_cases zsu:x<0<;>simp[zsu]<;>omega);have HM:=Zh hm;clear hm;go_enter Tryz.func118,Tryz.ntmps118;go_wp2_with (go_at_call 179;refine(HM.out _ Zi).mono ?_;rintro e w2 ⟨g,B1,k1,d1,rfl,hz,hs2⟩;obtain⟨q0,q1,q2,q3,q4,q5⟩:=zaT w w2 (.cells #[.bool na,.slice A n c] 102) (.bool false) (.slice none 0 0) 102;have Q0:=Zh q0;clear q0)
 exact bodyPost_ret (v:= .agg #[.bool g,.slice B1 k1 d1]) (by simp[results,Tryz.results118,go_sem,q1,q2]) rfl ⟨_,_,_,_,rfl,hz.boxedN HE.out ac Q0.out _ _,Step.of _ _⟩
theorem zdp(ha:IntV w0 na A n c x)(h40:n<=1099511627776)[hx:Ext w0 w]:
  Cq 124 #[.agg #[.bool na,.slice A n c]] w (zz w (-x)):=by
 have hm:=fun W(hh:Ext w0 W)=>zdo (w:=W) (!na) ha h40
 have HE:=Zh (show zp (!na) x.natAbs=-x by rw[ha.neg_eq];unfold zp;by_cases zsu:x<0<;>simp[zsu]<;>omega);have HM:=Zh hm;clear hm;go_enter Tryz.func124,Tryz.ntmps124;go_wp2_with (go_at_call 179;refine(HM.out _ Zi).mono ?_;rintro e w2 ⟨g,B1,k1,d1,rfl,hz,hs2⟩;obtain⟨q0,q1,q2,q3,q4,q5⟩:=zaT w w2 (.cells #[.bool na,.slice A n c] 102) (.bool false) (.slice none 0 0) 102;have Q0:=Zh q0;clear q0)
 exact bodyPost_ret (v:= .agg #[.bool g,.slice B1 k1 d1]) (by simp[results,Tryz.results124,go_sem,q1,q2]) rfl ⟨_,_,_,_,rfl,hz.boxedN HE.out ac Q0.out _ _,Step.of _ _⟩
theorem zdq(ha:IntV w0 na A n c x)(h40:n<=1099511627776)[hx:Ext w0 w]:
  Cq 116 #[.agg #[.bool na,.slice A n c]] w (zz w x.natAbs):=by
 have hm:=fun W(hh:Ext w0 W)=>zdo (w:=W) false ha h40
 have HE:=Zh (show zp false x.natAbs=x.natAbs by rfl);have HM:=Zh hm;clear hm;go_enter Tryz.func116,Tryz.ntmps116;go_wp2_with (go_at_call 179;refine(HM.out _ Zi).mono ?_;rintro e w2 ⟨g,B1,k1,d1,rfl,hz,hs2⟩;obtain⟨q0,q1,q2,q3,q4,q5⟩:=zaT w w2 (.cells #[.bool na,.slice A n c] 102) (.bool false) (.slice none 0 0) 102;have Q0:=Zh q0;clear q0)
 exact bodyPost_ret (v:= .agg #[.bool g,.slice B1 k1 d1]) (by simp[results,Tryz.results116,go_sem,q1,q2]) rfl ⟨_,_,_,_,rfl,hz.boxedN HE.out ac Q0.out _ _,Step.of _ _⟩
theorem zbZ(neg:Bool)(n:Int)(h0:0<=n)(h1:n<18446744073709551616)(w:World):
  Cq 178 #[.bool neg,.int .u64 n] w (zz w (zp neg n)):=by
 have hl:Limbs [n%4294967296,n / 4294967296]:=Limbs.cons aa (Limbs.cons aa Limbs.nil);have hm:=fun(W W2:World)(b:Nat)(hh:Ints W (some ⟨b,0,none⟩) 212 .u32 [n%4294967296,n / 4294967296])(hx:Ext W W2)=>za5 (w:=W2) (c:=2) neg hh hl (Nat.le_refl 2) aa ((aa:2<=1099511627776))
 rw[zfg]at hm;have HM:=Zh hm;have hi:Ints ((w.alloc (.cells #[.bool false,.slice none 0 0] 102)).alloc (.cells #[.int .u32 (n%4294967296),.int .u32 (n / 4294967296)] 212)) (some ⟨w.heap.size+1,0,none⟩) 212 .u32 [n%4294967296,n / 4294967296]:=by
  have:=Arr.new (w.alloc (.cells #[.bool false,.slice none 0 0] 102)) 212 #[.int .u32 (n%4294967296),.int .u32 (n / 4294967296)];rwa [World.size_alloc]at this
 have HI:=Zh hi;clear hm hi;go_enter Tryz.func178,Tryz.ntmps178;go_wp2_with (go_at_call 179;refine(HM.out _ _ _ HI.out Zi).mono ?_;rintro e w2 ⟨g,B1,k1,d1,rfl,hz,hs2⟩;obtain⟨q0,q1,q2,q3,q4,q5⟩:=qG w w2 (.bool false) (.slice none 0 0) 102;have Q0:=Zh q0;clear q0)
 exact bodyPost_ret (v:= .agg #[.bool g,.slice B1 k1 d1]) (by simp[results,Tryz.results178,go_sem,q1,q2]) rfl ⟨_,_,_,_,rfl,hz.boxed ac Q0.out _ _,Step.of _ _⟩
theorem QF(n:Int)(h0:-9223372036854775808<=n)(h1:n<=9223372036854775807)(w:World):
  Cq 114 #[.int .i64 n] w (zz w n):=by
 by_cases hn:n<0
 ·have HE:=Zh (show zp true (-n)=n by simp[zp]);have hb:decide (n<0)=true:=by simpa using hn
  go_enter Tryz.func114,Tryz.ntmps114;go_wp2_with fail
  rw[show IntKind.u64.wrap (-IntKind.u64.wrap n)=-n by simp only[IntKind.wrap_u64];omega];refine(zbZ true (-n) aa aa _).mono ?_;rintro e w2 ⟨g,B,k,d,rfl,hz,hs2⟩;obtain⟨q0,q1,q2,q3,q4,q5⟩:=qG w w2 (.bool false) (.slice none 0 0) 102;have Q0:=Zh q0;clear q0;go_wp2;exact bodyPost_ret (v:= .agg #[.bool g,.slice B k d]) (by simp[results,Tryz.results114,go_sem,q1,q2]) rfl ⟨_,_,_,_,rfl,hz.boxedN HE.out ac Q0.out _ _,Step.of _ _⟩
 ·have HE:=Zh (show zp false n=n by simp[zp]);have hb:decide (n<0)=false:=by simpa using hn
  have h0':0<=n:=aa
  clear hn h0;go_enter Tryz.func114,Tryz.ntmps114;go_wp2_with fail
  try rw[show IntKind.u64.wrap n=n by simp only[IntKind.wrap_u64];omega]
  refine(zbZ false n aa aa _).mono ?_;rintro e w2 ⟨g,B,k,d,rfl,hz,hs2⟩;obtain⟨q0,q1,q2,q3,q4,q5⟩:=qG w w2 (.bool false) (.slice none 0 0) 102;have Q0:=Zh q0;clear q0;go_wp2;exact bodyPost_ret (v:= .agg #[.bool g,.slice B k d]) (by simp[results,Tryz.results114,go_sem,q1,q2]) rfl ⟨_,_,_,_,rfl,hz.boxedN HE.out ac Q0.out _ _,Step.of _ _⟩
theorem zfV(h0:Ints w0 A 212 .u32 l)(hl:Limbs l)(zss:l.length<=9223372036854775807)[hx:Ext w0 w]:
  Cq 120 #[.slice A l.length c] w (Zq w (.int .u64 (val (l.take 2)))):=by
 have h:=h0.ext hx;go_enter Tryz.func120,Tryz.ntmps120;go_wp2;go_loop [3,4] (fun v i=>∃k:Nat,k<=l.length/\k<=2/\i= .int .i64 k/\v= .int .u64 (val (l.take k))) (fun _ i=>2-(intOf i).toNat)
 case atStart=>exact⟨0,aa,aa,rfl,rfl⟩
 case round=>
  obtain⟨k,hk,hk2,rfl,rfl⟩:=hrel;by_cases hlt:k<l.length
  ·by_cases h2:k<2
   ·obtain rfl|rfl:k=0∨k=1:=aa
    ·obtain⟨b,o,x,rfl,hx',zsU,hb⟩:=h.at0 hlt;obtain⟨hx0,hx1⟩:=hl.get hx';have hs:=Zh (zff hx');clear hx';simp only[List.take_zero,val];go_wp2;refine⟨⟨1,aa,aa,rfl,?_⟩,by simp[intOf]⟩;rw[zfe _ hx0 aa,hs.out]
    ·obtain⟨b,o,x,rfl,hx',zsU,hb⟩:=h.at_ hlt;obtain⟨hx0,hx1⟩:=hl.get hx';have hs:=Zh (ZK hx');clear hx';have hy0:=QC (hl.take 1);have hy1:=qH (hl.take 1);have hy2:(l.take 1).length=1:=by simp;omega
     rw[hy2]at hy1;clear hy2;go_wp2;refine⟨⟨2,aa,aa,rfl,?_⟩,by simp[intOf]⟩;rw[zfd _ _ hy0 aa hx0 hx1,hs.out];congr 1;omega
   ·obtain rfl:k=2:=aa
    go_wp2;go_ret;exact⟨rfl,rfl⟩
  ·obtain rfl:k=l.length:=aa
   have HT:=Zh (show l.take l.length=l.take 2 by rw[List.take_length,List.take_of_length_le hk2]);rw[HT.out];go_wp2;go_ret;exact⟨rfl,rfl⟩
theorem zfW(h:l.length<=2):l.take 2=l:=List.take_of_length_le h
theorem zk9(ha:IntV w0 na A n c x)(h0:-9223372036854775808<=x)(h1:x<=9223372036854775807)[hx:Ext w0 w]:
  Cq 60 #[.agg #[.bool na,.slice A n c]] w (zA w (.tuple #[.int .i64 x,.bool true])):=by
 have hn:=ha.neg_eq;have zss:n<=2:=ha.len (k:=2) aa;obtain⟨l,rfl,hl,tl,hv,hs,hi,h7,h8⟩:=ha;have htr:=fun W(hh:Ext w0 W)=>zbY (w:=W) hi hl h7 h8 aa
 rw[hv]at htr;have HT:=Zh htr;have HLO:Hid (∀(W W2:World)(B:Option Addr)(d:Nat)(l1:List Int),Ints W B 212 .u32 l1->Limbs l1->Tight l1->val l1=x.natAbs->Ext W W2->Cq 120 #[.slice B l1.length d] W2 (Zq W2 (.int .u64 x.natAbs))/\l1.length<=2):=Zh (by
  intro W W2 B d l1 a1 a2 a3 a4 a5;have hl2:l1.length<=2:=zc9 a2 a3 (k:=2) (by rw[a4];omega);refine⟨?_,hl2⟩;have:=zfV (w:=W2) (c:=d) a1 a2 aa;rwa [zfW hl2,a4]at this)
 clear htr hi hl tl hv h7 h8;by_cases zsu:x<0
 ·obtain rfl:na=true:=by simp[hn,zsu]
  have hab:(x.natAbs:Int)=-x:=aa
  rw[hab]at HT HLO;have hle:decide (-x<=9223372036854775808)=true:=by simp;omega
  clear hn hab hs;go_enter Tryz.func60,Tryz.ntmps60;go_wp2_with (first
   |(go_at_call 119;refine(HT.out _ Zi).mono ?_;rintro e w1 ⟨B,d,l1,rfl,hi1,hl1,ht1,hv1,hd1,hd2,hs1⟩;obtain⟨hlo,hl2⟩:=HLO.out _ _ _ d _ hi1 hl1 ht1 hv1 (Ext.refl w1);have HL:=Zh hlo;obtain⟨k,hk⟩:=Yz l1.length;rw[hk]at HL hl2|-;clear hlo hi1 hl1 ht1 hv1 hd1 hk;obtain⟨q1,q2⟩:=zaU w w1 (.bool true) (.slice A l.length c) 102)
   |(go_at_call 120;refine(HL.out).mono ?_;rintro e w' ⟨rfl,rfl⟩))
  go_ret2
  refine⟨?_,Step.of _ _⟩;have e1:wrap64 (IntKind.u64.wrap x)=x:=by simp only[wrap64,IntKind.wrap_u64,IntKind.wrap_i64];omega
  simp[e1]
 ·obtain rfl:na=false:=by simp[hn];omega
  have hab:(x.natAbs:Int)=x:=aa
  rw[hab]at HT HLO;have hle:decide (x<9223372036854775808)=true:=by simp;omega
  have hx0:0<=x:=aa
  clear hn hab hs zsu;go_enter Tryz.func60,Tryz.ntmps60;go_wp2_with (first
   |(go_at_call 119;refine(HT.out _ Zi).mono ?_;rintro e w1 ⟨B,d,l1,rfl,hi1,hl1,ht1,hv1,hd1,hd2,hs1⟩;obtain⟨hlo,hl2⟩:=HLO.out _ _ _ d _ hi1 hl1 ht1 hv1 (Ext.refl w1);have HL:=Zh hlo;obtain⟨k,hk⟩:=Yz l1.length;rw[hk]at HL hl2|-;clear hlo hi1 hl1 ht1 hv1 hd1 hk;obtain⟨q1,q2⟩:=zaU w w1 (.bool false) (.slice A l.length c) 102)
   |(go_at_call 120;refine(HL.out).mono ?_;rintro e w' ⟨rfl,rfl⟩))
  go_ret2
  refine⟨?_,Step.of _ _⟩;simp
theorem j4(ha:IntV w0 na A n c x)(h40:n<=1099511627776)[hx:Ext w0 w]:Cq 119 #[.slice A n c] w (fun e w'=>∃B k d,e= .returned (.slice B k d)/\NatV w' B k d x.natAbs/\Step w w'):=by
 obtain⟨l,rfl,hl,tl,hv,hs,hi,h7,h8⟩:=ha;rw[<-hv];exact(zbY hi hl h7 h8 h40).mono fun e w' h=>NatV.of_ret h
theorem jA(ha:IntV w0 na A n c x)(h40:n<=1099511627776)[hx:Ext w0 w]:
  Cq 126 #[.agg #[.bool na,.slice A n c]] w (zA w (.int .i64 (zo x 0))):=by
 have hn:=ha.neg_eq;have htr:=fun W(hh:Ext w0 W)=>j4 (w:=W) ha h40
 have HT:=Zh htr;have HZ:Hid (∀(W:World)B k d,NatV W B k d (x.natAbs:Int)->(k=0↔x=0)):=Zh (by intro W B k d h;rw[h.zero_iff];omega);clear htr;by_cases h0:x=0
 ·have HE:=Zh (Qm h0);have H0:=Zh h0;clear hn h0;go_enter Tryz.func126,Tryz.ntmps126;go_wp2_with (go_at_call 119;refine(HT.out _ Zi).mono ?_;rintro e w1 ⟨B,k,d,rfl,hN,hs1⟩;obtain rfl:k=0:=(HZ.out _ _ _ _ hN).2 H0.out;clear hN)
  go_ret;exact⟨by rw[HE.out];rfl,Step.of _ _⟩
 ·have H0:=Zh h0;by_cases zsu:x<0
  ·have HE:=Zh (qr zsu);obtain rfl:na=true:=by simp[hn,zsu]
   clear hn h0 zsu;go_enter Tryz.func126,Tryz.ntmps126;go_wp2_with (go_at_call 119;refine(HT.out _ Zi).mono ?_;rintro e w1 ⟨B,k,d,rfl,hN,hs1⟩;have hk:((k:Int)==0)=false:=(by have:=HZ.out _ _ _ _ hN;have:=H0.out;simp;omega);clear hN;obtain⟨q1,q2⟩:=zaU w w1 (.bool true) (.slice A n c) 102)
   go_ret;exact⟨by rw[HE.out];rfl,Step.of _ _⟩
  ·have HE:=Zh (Ql ((aa:0<x)));obtain rfl:na=false:=by simp[hn];omega
   clear hn h0 zsu;go_enter Tryz.func126,Tryz.ntmps126;go_wp2_with (go_at_call 119;refine(HT.out _ Zi).mono ?_;rintro e w1 ⟨B,k,d,rfl,hN,hs1⟩;have hk:((k:Int)==0)=false:=(by have:=HZ.out _ _ _ _ hN;have:=H0.out;simp;omega);clear hN;obtain⟨q1,q2⟩:=zaU w w1 (.bool false) (.slice A n c) 102)
   go_ret;exact⟨by rw[HE.out];rfl,Step.of _ _⟩
theorem zla(ha:Ints w A 212 .u32 l)(hb:Ints w B 212 .u32 m)(hl:Limbs l)(hm:Limbs m)
  (h1:l.length<=9223372036854775807) (hn:m.length=l.length):
  Cq 171 #[.slice A l.length c,.slice B l.length d] w (zA w (.int .i64 (zo (val l) (val m)))):=by
 have HN:=Zh hn;clear hn;go_enter Tryz.func171,Tryz.ntmps171;go_wp2;go_loopw [5] (fun i wr=>∃k:Nat,k<=l.length/\i= .int .i64 ((k:Int)-1)/\Hid (l.drop k=m.drop k)/\Ext w wr) (fun i _=>(intOf i+1).toNat)
 case atStart=>exact⟨l.length,aa,rfl,by simp[Hid,HN.out],Zi⟩
 case round=>
  obtain⟨k,hk,rfl,hd,hxr⟩:=hrel
  cases k with
  |zero=>
   go_wp2;go_ret;refine⟨?_,hxr.toStep⟩;have:=hd.out;simp only[List.drop_zero]at this;rw[Qm (by rw[this])];rfl
  |succ j=>
   obtain⟨b,o,x,rfl,hx',hcx,hbx⟩:=(ha.ext hxr).at_ (i:=j) aa;obtain⟨b',o',y,rfl,hy',hcy,hby⟩:=(hb.ext hxr).at_ (i:=j) (by have:=HN.out;omega);obtain⟨hx0,hx1⟩:=hl.get hx';obtain⟨hy0,hy1⟩:=hm.get hy';have HX:=Zh hx';have HY:=Zh hy';clear hx' hy';rw[(aa:((j+1:Nat):Int)-1=(j:Int))];by_cases hlt:x<y
   ·have zuA:decide (x<y)=true:=by simpa using hlt
    have hne:(x !=y)=true:=by simp;omega
    have e1:=Zh (qr (zbP hl hm HX.out HY.out hd.out hlt));go_wp2;go_quiet (fail)
    go_wp2;go_quiet (fail)
    go_wp2;go_ret;exact⟨by rw[e1.out];rfl,(Zi:Ext w _).toStep⟩
   ·by_cases hgt:y<x
    ·have zuA:decide (x<y)=false:=by simpa using hlt
     have hne:(x !=y)=true:=by simp;omega
     have e1:=Zh (Ql (zbP hm hl HY.out HX.out hd.out.symm hgt));clear hlt;go_wp2;go_quiet (fail)
     go_wp2;go_quiet (fail)
     go_wp2;go_ret;exact⟨by rw[e1.out];rfl,(Zi:Ext w _).toStep⟩
    ·obtain rfl:x=y:=aa
     have hd':Hid (l.drop j=m.drop j):=by
      have h1:j<l.length:=(Zg.1 HX.out).1;have h2:j<m.length:=(Zg.1 HY.out).1;unfold Hid;rw[List.drop_eq_getElem_cons h1,List.drop_eq_getElem_cons h2,hd.out,(Zg.1 HX.out).2,(Zg.1 HY.out).2]
     clear hlt hgt;go_wp2;go_quiet (fail)
     go_wp2;exact⟨⟨j,aa,rfl,hd',Zi⟩,by simp[intOf]<;>omega⟩
theorem zdr(ha':NatV w0 A n c x)(hb':NatV w1 B k d y)[hx:Ext w0 w][hy:Ext w1 w]:
  Cq 171 #[.slice A n c,.slice B k d] w (zA w (.int .i64 (zo x y))):=by
 obtain⟨l,rfl,ha,hl,tl,rfl,h5,h6⟩:=ha';obtain⟨m,rfl,hb,hm,tm,rfl,g5,g6⟩:=hb';by_cases hlt:l.length<m.length
 ·have e1:=Zh (qr (Jk hl hm tm hlt));have hne:((l.length:Int) !=(m.length:Int))=true:=by simp;omega
  go_enter Tryz.func171,Tryz.ntmps171;go_wp2;go_ret;exact⟨by rw[e1.out];rfl,Step.of _ _⟩
 by_cases hgt:m.length<l.length
 ·have e1:=Zh (Ql (Jk hm hl tl hgt));have hne:((l.length:Int) !=(m.length:Int))=true:=by simp;omega
  go_enter Tryz.func171,Tryz.ntmps171;go_wp2;go_ret;exact⟨by rw[e1.out];rfl,Step.of _ _⟩
 ·have hn:m.length=l.length:=aa
  rw[hn];exact zla (ha.ext hx) (hb.ext hy) hl hm aa hn
theorem zds(a b:Int):-1<=zo a b/\zo a b<=1:=by unfold zo;split<;>(try split)<;>omega
theorem zlb(x y:Int)(h:zo x 0=zo y 0):zo x 0*zo x.natAbs y.natAbs=zo x y:=by
 unfold zo at*
 by_cases h1:x<0
 ·have h2:y<0:=by
   rw[if_pos h1]at h;split at h
   ·assumption
   ·split at h<;>omega
  rw[if_pos h1];by_cases h3:x<y
  ·rw[if_pos h3,if_neg aa,if_neg aa];rfl
  ·by_cases h4:x=y
   ·subst h4;simp
   ·rw[if_neg h3,if_neg h4,if_pos aa];rfl
 ·rw[if_neg h1]at h;by_cases h2:x=0
  ·subst h2;simp at h|-
   have:y=0:=by
    by_cases h5:y<0
    ·rw[if_pos h5]at h;omega
    ·rw[if_neg h5]at h;by_cases h6:y=0
     ·exact h6
     ·rw[if_neg h6]at h;omega
   subst this;simp
  ·rw[if_neg h2]at h;have h7:0<y:=by
    by_cases h5:y<0
    ·rw[if_pos h5]at h;omega
    ·rw[if_neg h5]at h;by_cases h6:y=0
     ·rw[if_pos h6]at h;omega
     ·omega
   rw[if_neg h1,if_neg h2,Int.one_mul,(aa:((x.natAbs:Nat):Int)=x),(aa:((y.natAbs:Nat):Int)=y)]
theorem zb0(w w':World)(x y x' y':Value)(T T':TypeId)[h:Ext ((w.alloc (.cells #[x,y] T)).alloc (.cells #[x',y'] T')) w']:w'.cell? ⟨w.heap.size,1,none⟩=some y/\w'.cell? ⟨w.heap.size+1,1,none⟩=some y':=by
 obtain⟨_,a,_,b⟩:=qp w w' x y x' y' T T';exact⟨a,b⟩
theorem za6{nb:Bool}(ha:IntV w0 na A n c x)(hb:IntV w1 nb B k d y)(h1:n<=1099511627776)(h2:k<=1099511627776)[hx:Ext w0 w][hy:Ext w1 w]:
  Cq 106 #[.agg #[.bool na,.slice A n c],.agg #[.bool nb,.slice B k d]] w (zA w (.int .i64 (zo x y))):=by
 have hsa:=fun W(hh:Ext w0 W)=>jA (w:=W) ha h1
 have hsb:=fun W(hh:Ext w1 W)=>jA (w:=W) hb h2
 have hta:=fun W(hh:Ext w0 W)=>j4 (w:=W) ha h1
 have htb:=fun W(hh:Ext w1 W)=>j4 (w:=W) hb h2
 have HSA:=Zh hsa;have HSB:=Zh hsb;have HTA:=Zh hta;have HTB:=Zh htb;obtain⟨p,hp⟩:=Yz (zo x 0);obtain⟨q,hq⟩:=Yz (zo y 0);have rp:=zds x 0;have rq:=zds y 0;rw[hp]at HSA rp;rw[hq]at HSB rq;have HS:=Zh (fun h=>zlb x y h);have HR:=Zh (zds x.natAbs y.natAbs);have HD:Hid (p<q->zo x y=-1):=Zh (by
  subst hp hq;intro h;unfold zo at*;split at h<;>split at h<;>(try split at h)<;>(try split at h)<;>(try omega)<;>(rw[if_pos aa]))
 have HU:Hid (q<p->zo x y=1):=Zh (by
  subst hp hq;intro h;unfold zo at*;split at h<;>split at h<;>(try split at h)<;>(try split at h)<;>(try omega)<;>(rw[if_neg aa,if_neg aa]))
 rw[hp,hq]at HS;clear hsa hsb hta htb hp hq;by_cases hne:p=q
 ·subst hne;have hbe:(p !=p)=false:=af
  have HC:Hid (∀(W0 W1 W:World)B1 k1 d1 B2 k2 d2,NatV W0 B1 k1 d1 x.natAbs->NatV W1 B2 k2 d2 y.natAbs->Ext W0 W->Ext W1 W->Cq 171 #[.slice B1 k1 d1,.slice B2 k2 d2] W (zA W (.int .i64 (zo x.natAbs y.natAbs)))):=Zh (fun W0 W1 W B1 k1 d1 B2 k2 d2 a b e1 e2=>zdr a b);obtain⟨t,ht⟩:=Yz (zo x.natAbs y.natAbs);rw[ht]at HS HR HC;have HE:=Zh (HS.out rfl);have hpt:-1<=p*t/\p*t<=1:=by
   rcases(aa:p=-1∨p=0∨p=1) with h|h|h<;>subst h<;>have:=HR.out<;>omega
  clear HD HU HS HR ht;obtain⟨zwv,zww⟩:=hpt;obtain⟨u,hu⟩:=Yz (p*t);rw[hu]at HE zwv zww;have hw:IntKind.i64.wrap u=u:=by simp only[IntKind.wrap_i64];omega
  go_enter Tryz.func106,Tryz.ntmps106;go_wp2;go_region_held3 (fun w'=>w'.cell? ⟨w.heap.size,0,none⟩=some (.bool na)/\w'.cell? ⟨w.heap.size,1,none⟩=some (.slice A n c)/\w'.cell? ⟨w.heap.size+1,0,none⟩=some (.bool nb)/\w'.cell? ⟨w.heap.size+1,1,none⟩=some (.slice B k d)) (exact qp w _ _ _ _ _ 102 102)
   (first
    |(go_at_call_of 126 (Value.agg #[.bool na,.slice A n c]);refine(HSA.out _ Zi).mono ?_;rintro e w2 ⟨rfl,hs2⟩)
    |(go_at_call_of 126 (Value.agg #[.bool nb,.slice B k d]);refine(HSB.out _ Zi).mono ?_;rintro e w2 ⟨rfl,hs2⟩))
  all_goals
   go_wp2;go_region_held3 (fun w'=>w'.cell? ⟨w.heap.size,1,none⟩=some (.slice A n c)/\w'.cell? ⟨w.heap.size+1,1,none⟩=some (.slice B k d)) (exact zb0 w _ (.bool na) (.slice A n c) (.bool nb) (.slice B k d) 102 102)
    (first
     |(go_at_call_of 119 (Value.slice A n c);refine(HTA.out _ Zi).mono ?_;rintro e w4 ⟨B4,k4,d4,rfl,hN4,hs4⟩)
     |(go_at_call_of 119 (Value.slice B k d);refine(HTB.out _ Zi).mono ?_;rintro e w5 ⟨B5,k5,d5,rfl,hN5,hs5⟩)
     |(go_at_call 171;refine(HC.out _ _ _ _ _ _ _ _ _ hN4 hN5 Zi Zi).mono ?_;rintro e w6 ⟨rfl,hs6⟩))
  all_goals
   go_wp2;go_ret;exact⟨by rw[<-HE.out];simp[hw],Step.of _ _⟩
 ·have hbe:(p !=q)=true:=by simp;exact hne
  by_cases hlt:p<q
  ·have hb2:decide (p<q)=true:=by simpa using hlt
   have HE:=Zh (HD.out hlt);clear HD HU HS HR hne hlt;go_enter Tryz.func106,Tryz.ntmps106;go_wp2;go_region_held3 (fun w'=>w'.cell? ⟨w.heap.size,0,none⟩=some (.bool na)/\w'.cell? ⟨w.heap.size,1,none⟩=some (.slice A n c)/\w'.cell? ⟨w.heap.size+1,0,none⟩=some (.bool nb)/\w'.cell? ⟨w.heap.size+1,1,none⟩=some (.slice B k d)) (exact qp w _ _ _ _ _ 102 102)
    (first
     |(go_at_call_of 126 (Value.agg #[.bool na,.slice A n c]);refine(HSA.out _ Zi).mono ?_;rintro e w2 ⟨rfl,hs2⟩)
     |(go_at_call_of 126 (Value.agg #[.bool nb,.slice B k d]);refine(HSB.out _ Zi).mono ?_;rintro e w2 ⟨rfl,hs2⟩))
   all_goals
    go_wp2;go_ret;exact⟨by rw[HE.out];rfl,Step.of _ _⟩
  ·have hb2:decide (p<q)=false:=by simpa using hlt
   have HE:=Zh (HU.out aa);clear HD HU HS HR hne hlt;go_enter Tryz.func106,Tryz.ntmps106;go_wp2;go_region_held3 (fun w'=>w'.cell? ⟨w.heap.size,0,none⟩=some (.bool na)/\w'.cell? ⟨w.heap.size,1,none⟩=some (.slice A n c)/\w'.cell? ⟨w.heap.size+1,0,none⟩=some (.bool nb)/\w'.cell? ⟨w.heap.size+1,1,none⟩=some (.slice B k d)) (exact qp w _ _ _ _ _ 102 102)
    (first
     |(go_at_call_of 126 (Value.agg #[.bool na,.slice A n c]);refine(HSA.out _ Zi).mono ?_;rintro e w2 ⟨rfl,hs2⟩)
     |(go_at_call_of 126 (Value.agg #[.bool nb,.slice B k d]);refine(HSB.out _ Zi).mono ?_;rintro e w2 ⟨rfl,hs2⟩))
   all_goals
    go_wp2;go_ret;exact⟨by rw[HE.out];rfl,Step.of _ _⟩
def QG(w:World)(z:Int)(n:Nat)(e:Ending)(w':World):Prop:=∃B d l,e= .returned (.slice B (List.length l) d)/\Ints w' B 212 .u32 l/\Limbs l/\val l=z/\l.length<=n/\l.length<=d/\d<=9223372036854775807/\Step w w'
theorem zdt(hl:Limbs l)(hv:val l=z)(hn:l.length<=n)(zsq:Own w1 ze 212 1 A1 l.length c1 (l.map (Value.int .u32)))(hx:Ext w w1):QG w z n (.returned (.slice A1 l.length c1)) w1:=
 ⟨A1,c1,l,rfl,zsq.arr,hl,hv,hn,zsq.cap.1,zsq.cap.2,hx.toStep⟩
theorem jB{s:List Int}(_hs:s.length=k)(zsq:Own w1 ze 212 1 A1 (k+1) c1 (s.map (Value.int .u32)++[.int .u32 x])):Own w1 ze 212 1 A1 (k+1) c1 ((s++[x]).map (Value.int .u32)):=by
 simpa using zsq
theorem jC(W:World)(x:Int):Arr (W.alloc (.cells #[.int .u32 x] 212)) (some ⟨W.heap.size,0,none⟩) 212 [.int .u32 x]:=Arr.new W 212 #[.int .u32 x]
theorem jD (x:Int):∀u∈[Value.int .u32 x],u.oneCell'=true:=by intro u hu;obtain rfl:u= .int .u32 x:=by simpa using hu
                                                             rfl
theorem zlc(ha':Ints w0 A 212 .u32 l)(hb':Ints w1 B 212 .u32 m)(hl:Limbs l)(hm:Limbs m)(h1:l.length<=274877906944)(h2:m.length<=274877906944)[hx:Ext w0 w][hy:Ext w1 w]:
  Cq 242 #[.slice A l.length c,.slice B m.length d] w (QG w (val l+val m) (max l.length m.length+1)):=by
 have ha:=ha'.ext hx;have hb:=hb'.ext hy;obtain⟨N,hN⟩:=Xz (max l.length m.length);have hN1:l.length<=N:=aa
 have hN2:m.length<=N:=aa
 have hN3:N<=274877906944:=aa
 have hN4:N=l.length∨N=m.length:=aa
 rw[<-hN];clear hN ha' hb';go_enter Tryz.func242,Tryz.ntmps242;go_wp2;go_loopw [5,6,7] (fun v cv i wr=>∃(k:Nat) (s:List Int) (cy:Int) (A1:Option Addr) (c1:Nat),k<=N/\i= .int .i64 k/\v= .slice A1 k c1/\cv= .int .u64 cy/\0<=cy/\cy<=1/\Hid (s.length=k)/\Hid (Limbs s)/\Hid (val s+(4294967296:Int)^k*cy=val (l.take k)+val (m.take k))/\Hid (Own wr w.heap.size 212 1 A1 k c1 (s.map (Value.int .u32)))/\Ext w wr) (fun _ _ i _=>N-(intOf i).toNat)
 case atStart=>exact⟨0,[],0,none,0,aa,rfl,rfl,rfl,aa,aa,Zh rfl,Zh Limbs.nil,Zh (by simp[val]),Zh (Own.nil _ _ _ _),Zi⟩
 case round=>
  obtain⟨k,s,cy,A1,c1,hk,rfl,rfl,rfl,hc0,hc1,HS,HLs,HV,HO,hxr⟩:=hrel;by_cases hkl:k<l.length
  ·obtain⟨b,o,x,rfl,hx',hcx,hbx⟩:=(ha.ext hxr).at_ (i:=k) aa;obtain⟨hx0,hx1⟩:=hl.get hx';have HX:=Zh (ZK hx');clear hx';by_cases hkm:k<m.length
   ·obtain⟨b',o',y,rfl,hy',hcy,hby⟩:=(hb.ext hxr).at_ (i:=k) aa;obtain⟨hy0,hy1⟩:=hm.get hy';have HY:=Zh (ZK hy');clear hy';go_wp2_with (at_builtin;refine Zp _ rfl _ _ 100 rfl w.heap.size 212 (.int .u32 0) 1 4 Tryz.underlying100 Tryz.infoU32 rfl aa aa A1 k c1 (s.map (Value.int .u32)) rfl (HO.out.ext Zi) _ 1 1 _ rfl (jC _ _) rfl (jD _) aa (by have:=hxr.size;simp;omega) ?_;intro A2 c2 w2 zsq hg;have HO2:=Zh (jB HS.out zsq);have hx2:Ext w w2:=hg.ext Zi Zr;clear zsq hg)
    refine⟨⟨k+1,s++[(cy+x+y)%4294967296],(cy+x+y) / 4294967296,A2,c2,aa,by go_num,rfl,rfl,aa,aa,Zh (qA HS.out _),Zh (HLs.out.snoc aa aa),Zh ?_,HO2,Zi⟩,by simp[intOf]<;>omega⟩;rw[Qn HS.out cy (cy+x+y) _ ((4294967296:Int)^k*x+(4294967296:Int)^k*y) HV.out (by rw[<-Int.mul_add];congr 1;omega),HX.out,HY.out];omega
   ·have HY:=Zh (show val (m.take (k+1))=val (m.take k) by rw[ZU aa,ZU aa]);go_wp2_with (at_builtin;refine Zp _ rfl _ _ 100 rfl w.heap.size 212 (.int .u32 0) 1 4 Tryz.underlying100 Tryz.infoU32 rfl aa aa A1 k c1 (s.map (Value.int .u32)) rfl (HO.out.ext Zi) _ 1 1 _ rfl (jC _ _) rfl (jD _) aa (by have:=hxr.size;simp;omega) ?_;intro A2 c2 w2 zsq hg;have HO2:=Zh (jB HS.out zsq);have hx2:Ext w w2:=hg.ext Zi Zr;clear zsq hg)
    refine⟨⟨k+1,s++[(cy+x)%4294967296],(cy+x) / 4294967296,A2,c2,aa,by go_num,rfl,rfl,aa,aa,Zh (qA HS.out _),Zh (HLs.out.snoc aa aa),Zh ?_,HO2,Zi⟩,by simp[intOf]<;>omega⟩;rw[Qn HS.out cy (cy+x) _ ((4294967296:Int)^k*x) HV.out (by congr 1;omega),HX.out,HY.out];omega
  ·by_cases hkm:k<m.length
   ·have HX:=Zh (show val (l.take (k+1))=val (l.take k) by rw[ZU aa,ZU aa]);obtain⟨b',o',y,rfl,hy',hcy,hby⟩:=(hb.ext hxr).at_ (i:=k) aa;obtain⟨hy0,hy1⟩:=hm.get hy';have HY:=Zh (ZK hy');clear hy';go_wp2_with (at_builtin;refine Zp _ rfl _ _ 100 rfl w.heap.size 212 (.int .u32 0) 1 4 Tryz.underlying100 Tryz.infoU32 rfl aa aa A1 k c1 (s.map (Value.int .u32)) rfl (HO.out.ext Zi) _ 1 1 _ rfl (jC _ _) rfl (jD _) aa (by have:=hxr.size;simp;omega) ?_;intro A2 c2 w2 zsq hg;have HO2:=Zh (jB HS.out zsq);have hx2:Ext w w2:=hg.ext Zi Zr;clear zsq hg)
    refine⟨⟨k+1,s++[(cy+y)%4294967296],(cy+y) / 4294967296,A2,c2,aa,by go_num,rfl,rfl,aa,aa,Zh (qA HS.out _),Zh (HLs.out.snoc aa aa),Zh ?_,HO2,Zi⟩,by simp[intOf]<;>omega⟩;rw[Qn HS.out cy (cy+y) _ ((4294967296:Int)^k*y) HV.out (by congr 1;omega),HX.out,HY.out];omega
   ·obtain rfl:k=N:=aa
    have zst:=HV.out;rw[ZU aa,ZU aa]at zst;have HF:=Zh zst;clear zst HV hN4;have hcm:cy%4294967296=cy:=aa
    go_wp2_with (at_builtin;refine Zp _ rfl _ _ 100 rfl w.heap.size 212 (.int .u32 0) 1 4 Tryz.underlying100 Tryz.infoU32 rfl aa aa A1 k c1 (s.map (Value.int .u32)) rfl (HO.out.ext Zi) _ 1 1 _ rfl (jC _ _) rfl (jD _) aa (by have:=hxr.size;simp;omega) ?_;intro A2 c2 w2 zsq hg;have HO2:=Zh (jB HS.out zsq);have hx2:Ext w w2:=hg.ext Zi Zr;clear zsq hg)
    go_ret;have e1:(s++[cy]).length=k+1:=qA HS.out _;have:=zdt (w:=w) (n:=k+1) (HLs.out.snoc hc0 aa) (show val (s++[cy])=val l+val m by rw[JK,HS.out,HF.out]) aa (by rw[e1];exact HO2.out) Zi;rw[e1]at this;simpa using this
theorem zfX(x t:Int):IntKind.u64.wrap (x-t)%4294967296=(x-t)%4294967296:=by
 simp only[IntKind.wrap_u64];omega
theorem zld(ha':Ints w0 A 212 .u32 l)(hb':Ints w1 B 212 .u32 m)(hl:Limbs l)(hm:Limbs m)(h1:l.length<=274877906944)(hn:m.length<=l.length)(hle:val m<=val l)[hx:Ext w0 w][hy:Ext w1 w]:
  Cq 243 #[.slice A l.length c,.slice B m.length d] w (QG w (val l-val m) l.length):=by
 have ha:=ha'.ext hx;have hb:=hb'.ext hy;clear ha' hb';go_enter Tryz.func243,Tryz.ntmps243;go_wp2;go_loopw [5,6,7,8] (fun v cv i _ wr=>∃(k:Nat) (s:List Int) (cy:Int) (A1:Option Addr) (c1:Nat),k<=l.length/\i= .int .i64 k/\v= .slice A1 k c1/\cv= .int .u64 cy/\0<=cy/\cy<=1/\Hid (s.length=k)/\Hid (Limbs s)/\Hid (val s+(4294967296:Int)^k*(-cy)=val (l.take k)-val (m.take k))/\Hid (Own wr w.heap.size 212 1 A1 k c1 (s.map (Value.int .u32)))/\Ext w wr) (fun _ _ i _ _=>l.length-(intOf i).toNat)
 case atStart=>exact⟨0,[],0,none,0,aa,rfl,rfl,rfl,aa,aa,Zh rfl,Zh Limbs.nil,Zh (by simp[val]),Zh (Own.nil _ _ _ _),Zi⟩
 case round=>
  obtain⟨k,s,cy,A1,c1,hk,rfl,rfl,rfl,hc0,hc1,HS,HLs,HV,HO,hxr⟩:=hrel;by_cases hkl:k<l.length
  ·obtain⟨b,o,x,rfl,hx',zuE,zuF⟩:=ha.at_ (i:=k) aa;have hcx:=(hxr.below.cell (p:=⟨b,o+k,none⟩) zuF).trans zuE;have HCW:=Zh (And.intro zuE zuF);clear zuE zuF;obtain⟨hx0,hx1⟩:=hl.get hx';have HX:=Zh (ZK hx');clear hx';by_cases hkm:k<m.length
   ·obtain⟨b',o',y,rfl,hy',hcy,hby⟩:=(hb.ext hxr).at_ (i:=k) aa;obtain⟨hy0,hy1⟩:=hm.get hy';have HY:=Zh (ZK hy');clear hy';have hw:=zfX x (cy+y);by_cases hlt:x<cy+y
    ·have hlb:decide (x<cy+y)=true:=by simpa using hlt
     go_wp2_with (at_builtin;refine Zp _ rfl _ _ 100 rfl w.heap.size 212 (.int .u32 0) 1 4 Tryz.underlying100 Tryz.infoU32 rfl aa aa A1 k c1 (s.map (Value.int .u32)) rfl (HO.out.ext Zi) _ 1 1 _ rfl (jC _ _) rfl (jD _) aa (by have:=hxr.size;simp;omega) ?_;intro A2 c2 w2 zsq hg;have HO2:=Zh (jB HS.out zsq);have hx2:Ext w w2:=hg.ext Zi Zr;clear zsq hg;have cx2:=(hx2.below.cell (p:=⟨b,o+k,none⟩) HCW.out.2).trans HCW.out.1)
     have hc2:(x-(cy+y)) / 4294967296=-1:=aa
     refine⟨⟨k+1,s++[(x-(cy+y))%4294967296],1,A2,c2,aa,by go_num,rfl,rfl,aa,aa,Zh (qA HS.out _),Zh (HLs.out.snoc aa aa),Zh ?_,HO2,Zi⟩,by simp[intOf]<;>omega⟩;rw[<-hc2,Qn HS.out (-cy) (x-(cy+y)) _ ((4294967296:Int)^k*x-(4294967296:Int)^k*y) HV.out (by (try rw[<-Int.mul_sub]);congr 1;omega),HX.out,HY.out];omega
    ·have hlb:decide (x<cy+y)=false:=by simpa using hlt
     go_wp2_with (at_builtin;refine Zp _ rfl _ _ 100 rfl w.heap.size 212 (.int .u32 0) 1 4 Tryz.underlying100 Tryz.infoU32 rfl aa aa A1 k c1 (s.map (Value.int .u32)) rfl (HO.out.ext Zi) _ 1 1 _ rfl (jC _ _) rfl (jD _) aa (by have:=hxr.size;simp;omega) ?_;intro A2 c2 w2 zsq hg;have HO2:=Zh (jB HS.out zsq);have hx2:Ext w w2:=hg.ext Zi Zr;clear zsq hg;have cx2:=(hx2.below.cell (p:=⟨b,o+k,none⟩) HCW.out.2).trans HCW.out.1)
     have hc2:(x-(cy+y)) / 4294967296=-0:=aa
     refine⟨⟨k+1,s++[(x-(cy+y))%4294967296],0,A2,c2,aa,by go_num,rfl,rfl,aa,aa,Zh (qA HS.out _),Zh (HLs.out.snoc aa aa),Zh ?_,by rw[(aa:(x-(cy+y))%4294967296=x-(cy+y))];exact HO2,Zi⟩,by simp[intOf]<;>omega⟩;rw[<-hc2,Qn HS.out (-cy) (x-(cy+y)) _ ((4294967296:Int)^k*x-(4294967296:Int)^k*y) HV.out (by (try rw[<-Int.mul_sub]);congr 1;omega),HX.out,HY.out]
     omega
   ·have HY:=Zh (show val (m.take (k+1))=val (m.take k) by rw[ZU aa,ZU aa]);have hw:=zfX x cy;by_cases hlt:x<cy
    ·have hlb:decide (x<cy)=true:=by simpa using hlt
     go_wp2_with (at_builtin;refine Zp _ rfl _ _ 100 rfl w.heap.size 212 (.int .u32 0) 1 4 Tryz.underlying100 Tryz.infoU32 rfl aa aa A1 k c1 (s.map (Value.int .u32)) rfl (HO.out.ext Zi) _ 1 1 _ rfl (jC _ _) rfl (jD _) aa (by have:=hxr.size;simp;omega) ?_;intro A2 c2 w2 zsq hg;have HO2:=Zh (jB HS.out zsq);have hx2:Ext w w2:=hg.ext Zi Zr;clear zsq hg;have cx2:=(hx2.below.cell (p:=⟨b,o+k,none⟩) HCW.out.2).trans HCW.out.1)
     have hc2:(x-cy) / 4294967296=-1:=aa
     refine⟨⟨k+1,s++[(x-cy)%4294967296],1,A2,c2,aa,by go_num,rfl,rfl,aa,aa,Zh (qA HS.out _),Zh (HLs.out.snoc aa aa),Zh ?_,HO2,Zi⟩,by simp[intOf]<;>omega⟩;rw[<-hc2,Qn HS.out (-cy) (x-cy) _ ((4294967296:Int)^k*x) HV.out (by (try rw[<-Int.mul_sub]);congr 1;omega),HX.out,HY.out];omega
    ·have hlb:decide (x<cy)=false:=by simpa using hlt
     go_wp2_with (at_builtin;refine Zp _ rfl _ _ 100 rfl w.heap.size 212 (.int .u32 0) 1 4 Tryz.underlying100 Tryz.infoU32 rfl aa aa A1 k c1 (s.map (Value.int .u32)) rfl (HO.out.ext Zi) _ 1 1 _ rfl (jC _ _) rfl (jD _) aa (by have:=hxr.size;simp;omega) ?_;intro A2 c2 w2 zsq hg;have HO2:=Zh (jB HS.out zsq);have hx2:Ext w w2:=hg.ext Zi Zr;clear zsq hg;have cx2:=(hx2.below.cell (p:=⟨b,o+k,none⟩) HCW.out.2).trans HCW.out.1)
     have hc2:(x-cy) / 4294967296=-0:=aa
     refine⟨⟨k+1,s++[(x-cy)%4294967296],0,A2,c2,aa,by go_num,rfl,rfl,aa,aa,Zh (qA HS.out _),Zh (HLs.out.snoc aa aa),Zh ?_,by rw[(aa:(x-cy)%4294967296=x-cy)];exact HO2,Zi⟩,by simp[intOf]<;>omega⟩;rw[<-hc2,Qn HS.out (-cy) (x-cy) _ ((4294967296:Int)^k*x) HV.out (by (try rw[<-Int.mul_sub]);congr 1;omega),HX.out,HY.out];omega
  ·obtain rfl:k=l.length:=aa
   have zst:=HV.out;rw[ZU Zr,ZU hn]at zst;have hs1:=qH HLs.out;rw[HS.out]at hs1;have hp:=jf l.length;have hcy:cy=0:=by
    rcases(aa:cy=0∨cy=1) with h|h
    ·exact h
    ·subst h;omega
   subst hcy;have HF:=Zh (show val s=val l-val m by simpa using zst);clear zst HV hs1 hp hc0 hc1;go_wp2;go_ret;have:=zdt (w:=w) (n:=l.length) HLs.out HF.out (by rw[HS.out];omega) (by rw[HS.out];exact HO.out) hxr;rw[HS.out]at this;simpa using this
theorem zle(ha:NatV w0 A n c x)(hb:NatV w1 B k d y)(h1:n<=274877906944)(h2:k<=274877906944)[hx:Ext w0 w][hy:Ext w1 w]:Cq 242 #[.slice A n c,.slice B k d] w (QG w (x+y) 274877906945):=by
 obtain⟨l,rfl,a1,a2,a3,rfl,a5,a6⟩:=ha;obtain⟨m,rfl,b1,b2,b3,rfl,b5,b6⟩:=hb;refine(zlc a1 b1 a2 b2 h1 h2).mono ?_;rintro e w' ⟨B,d,l',q1,q2,q3,q4,q5,q6,q7,q8⟩;exact⟨B,d,l',q1,q2,q3,q4,aa,q6,q7,q8⟩
theorem zdu(ha:NatV w0 A n c x)(hb:NatV w1 B k d y)(h1:n<=274877906944)(hle:y<=x)[hx:Ext w0 w][hy:Ext w1 w]:Cq 243 #[.slice A n c,.slice B k d] w (QG w (x-y) 274877906945):=by
 obtain⟨l,rfl,a1,a2,a3,rfl,a5,a6⟩:=ha;obtain⟨m,rfl,b1,b2,b3,rfl,b5,b6⟩:=hb;have zss:m.length<=l.length:=by
  rcases Zl l.length m.length with h|h
  ·have:=Jk a2 b2 b3 h;omega
  ·exact h
 refine(zld a1 b1 a2 b2 h1 zss hle).mono ?_;rintro e w' ⟨B,d,l',q1,q2,q3,q4,q5,q6,q7,q8⟩;exact⟨B,d,l',q1,q2,q3,q4,aa,q6,q7,q8⟩
theorem zdv{e:Ending}(neg:Bool)(h:QG w0 z n e w')(hn:n<=1099511627776):∃B k d,e= .returned (.slice B k d)/\Step w0 w'/\(∀W,Ext w' W->Cq 179 #[.bool neg,.slice B k d] W (zz W (zp neg z))):=by
 obtain⟨B,d,l',rfl,q2,q3,rfl,q5,q6,q7,q8⟩:=h;exact⟨B,l'.length,d,rfl,q8,fun W hh=>za5 neg q2 q3 q6 q7 aa⟩
theorem zdw(w w':World)(x y x' y':Value)(T T':TypeId)[h:Ext ((w.alloc (.cells #[x,y] T)).alloc (.cells #[x',y'] T')) w']:w'.cell? ⟨w.heap.size,0,none⟩=some x/\w'.cell? ⟨w.heap.size+1,0,none⟩=some x':=by
 obtain⟨a,_,b,_⟩:=qp w w' x y x' y' T T';exact⟨a,b⟩
theorem zam{nb:Bool}(ha:IntV w0 na A n c x)(hb:IntV w1 nb B k d y)(h1:n<=274877906944)(h2:k<=274877906944)[hx:Ext w0 w][hy:Ext w1 w]:
  Cq 180 #[.agg #[.bool na,.slice A n c],.agg #[.bool nb,.slice B k d]] w (zz w (x+y)):=by
 have hta:=fun W(hh:Ext w0 W)=>j4 (w:=W) ha aa
 have htb:=fun W(hh:Ext w1 W)=>j4 (w:=W) hb aa
 have HTA:=Zh hta;have HTB:=Zh htb;have hsx:=ha.neg_eq;have hsy:=hb.neg_eq;have HL:Hid ((∀(W:World)B1 k1 d1,NatV W B1 k1 d1 x.natAbs->k1<=274877906944)/\(∀(W:World)B1 k1 d1,NatV W B1 k1 d1 y.natAbs->k1<=274877906944)):=Zh (by
  obtain⟨l,rfl,a2,a3,a4,_⟩:=ha;obtain⟨m,rfl,b2,b3,b4,_⟩:=hb;constructor
  ·intro W B1 k1 d1 hN;have:=hN.len (k:=l.length) (by rw[<-a4];exact qH a2);omega
  ·intro W B1 k1 d1 hN;have:=hN.len (k:=m.length) (by rw[<-b4];exact qH b2);omega)
 clear hta htb;by_cases hn:na=nb
 ·subst hn;have HE:Hid (zp na (x.natAbs+y.natAbs)=x+y):=Zh (by rw[hsx]at hsy|-;unfold zp;by_cases h3:x<0<;>by_cases h4:y<0<;>simp[h3,h4]at hsy|-<;>omega);have HS:Hid (∀(W0 W1 W:World)B1 k1 d1 B2 k2 d2,NatV W0 B1 k1 d1 x.natAbs->NatV W1 B2 k2 d2 y.natAbs->Ext W0 W->Ext W1 W->Cq 242 #[.slice B1 k1 d1,.slice B2 k2 d2] W (QG W (x.natAbs+y.natAbs) 274877906945)):=Zh (fun W0 W1 W B1 k1 d1 B2 k2 d2 a b e1 e2=>zle a b (HL.out.1 _ _ _ _ a) (HL.out.2 _ _ _ _ b))
  clear hsx hsy;go_enter Tryz.func180,Tryz.ntmps180;go_wp2;go_region_held3 (fun w'=>w'.cell? ⟨w.heap.size,0,none⟩=some (.bool na)/\w'.cell? ⟨w.heap.size,1,none⟩=some (.slice A n c)/\w'.cell? ⟨w.heap.size+1,0,none⟩=some (.bool na)/\w'.cell? ⟨w.heap.size+1,1,none⟩=some (.slice B k d)) (exact qp w _ (.bool na) (.slice A n c) (.bool na) (.slice B k d) 102 102)
   (first
    |(go_at_call_of 119 (Value.slice A n c);refine(HTA.out _ Zi).mono ?_;rintro e w4 ⟨B4,k4,d4,rfl,hN4,hs4⟩)
    |(go_at_call_of 119 (Value.slice B k d);refine(HTB.out _ Zi).mono ?_;rintro e w5 ⟨B5,k5,d5,rfl,hN5,hs5⟩))
  all_goals
   go_wp2;go_region_held3 (fun w'=>w'.cell? ⟨w.heap.size,0,none⟩=some (.bool na)/\w'.cell? ⟨w.heap.size+1,0,none⟩=some (.bool na)) (exact zdw w _ (.bool na) (.slice A n c) (.bool na) (.slice B k d) 102 102)
    (first
     |(go_at_call 242;refine(HS.out _ _ _ _ _ _ _ _ _ hN4 hN5 Zi Zi).mono ?_;rintro e w6 hR6;obtain⟨B6,k6,d6,rfl,hs6,hM6⟩:=zdv na hR6 aa;clear hR6)
     |(go_at_call 179;refine(hM6 _ Zi).mono ?_;rintro e w7 ⟨g,B7,k7,d7,rfl,hz,hs7⟩;obtain⟨q0,q1,q2,q3,q4,q5⟩:=jy w w7 (.cells #[.bool na,.slice A n c] 102) (.cells #[.bool na,.slice B k d] 102) (.bool false) (.slice none 0 0) 102))
   all_goals
    have Q0:=Zh q0;clear q0 hM6;go_wp2;exact bodyPost_ret (v:= .agg #[.bool g,.slice B7 k7 d7]) (by simp[results,Tryz.results180,go_sem,q1,q2]) rfl ⟨_,_,_,_,rfl,hz.boxedN HE.out ac Q0.out _ _,Step.of _ _⟩
 ·have hnb:(na==nb)=false:=by simp[hn]
  have HC:Hid (∀(W0 W1 W:World)B1 k1 d1 B2 k2 d2,NatV W0 B1 k1 d1 x.natAbs->NatV W1 B2 k2 d2 y.natAbs->Ext W0 W->Ext W1 W->Cq 171 #[.slice B1 k1 d1,.slice B2 k2 d2] W (zA W (.int .i64 (zo x.natAbs y.natAbs)))):=Zh (fun W0 W1 W B1 k1 d1 B2 k2 d2 a b e1 e2=>zdr a b);by_cases hle:(y.natAbs:Int)<=x.natAbs
  ·have hge:0<=zo x.natAbs y.natAbs:=by unfold zo;split;omega;split<;>omega
   have HE:Hid (zp na ((x.natAbs:Int)-y.natAbs)=x+y):=Zh (by subst hsx hsy;unfold zp;by_cases h3:x<0<;>by_cases h4:y<0<;>simp[h3,h4]at hn|-<;>omega);have HS:Hid (∀(W0 W1 W:World)B1 k1 d1 B2 k2 d2,NatV W0 B1 k1 d1 x.natAbs->NatV W1 B2 k2 d2 y.natAbs->Ext W0 W->Ext W1 W->Cq 243 #[.slice B1 k1 d1,.slice B2 k2 d2] W (QG W ((x.natAbs:Int)-y.natAbs) 274877906945)):=Zh (fun W0 W1 W B1 k1 d1 B2 k2 d2 a b e1 e2=>zdu a b (HL.out.1 _ _ _ _ a) hle)
   obtain⟨t,ht⟩:=Yz (zo x.natAbs y.natAbs);rw[ht]at HC hge;have hgb:decide (0<=t)=true:=by simpa using hge
   clear hsx hsy hle hn ht;go_enter Tryz.func180,Tryz.ntmps180;go_wp2;go_region_held3 (fun w'=>w'.cell? ⟨w.heap.size,0,none⟩=some (.bool na)/\w'.cell? ⟨w.heap.size,1,none⟩=some (.slice A n c)/\w'.cell? ⟨w.heap.size+1,0,none⟩=some (.bool nb)/\w'.cell? ⟨w.heap.size+1,1,none⟩=some (.slice B k d)) (exact qp w _ (.bool na) (.slice A n c) (.bool nb) (.slice B k d) 102 102)
    (first
     |(go_at_call_of 119 (Value.slice A n c);refine(HTA.out _ Zi).mono ?_;rintro e w4 ⟨B4,k4,d4,rfl,hN4,hs4⟩)
     |(go_at_call_of 119 (Value.slice B k d);refine(HTB.out _ Zi).mono ?_;rintro e w5 ⟨B5,k5,d5,rfl,hN5,hs5⟩))
   all_goals
    go_wp2_with (go_at_call 171;refine(HC.out _ _ _ _ _ _ _ _ _ hN4 hN5 Zi Zi).mono ?_;rintro e w8 ⟨rfl,hs8⟩)
    go_region_held3 (fun w'=>w'.cell? ⟨w.heap.size,0,none⟩=some (.bool na)/\w'.cell? ⟨w.heap.size+1,0,none⟩=some (.bool nb)) (exact zdw w _ (.bool na) (.slice A n c) (.bool nb) (.slice B k d) 102 102)
     (first
      |(go_at_call 243;refine(HS.out _ _ _ _ _ _ _ _ _ hN4 hN5 Zi Zi).mono ?_;rintro e w6 hR6;obtain⟨B6,k6,d6,rfl,hs6,hM6⟩:=zdv na hR6 aa;clear hR6)
      |(go_at_call 179;refine(hM6 _ Zi).mono ?_;rintro e w7 ⟨g,B7,k7,d7,rfl,hz,hs7⟩;obtain⟨q0,q1,q2,q3,q4,q5⟩:=jy w w7 (.cells #[.bool na,.slice A n c] 102) (.cells #[.bool nb,.slice B k d] 102) (.bool false) (.slice none 0 0) 102))
    all_goals
     have Q0:=Zh q0;clear q0 hM6;go_wp2;exact bodyPost_ret (v:= .agg #[.bool g,.slice B7 k7 d7]) (by simp[results,Tryz.results180,go_sem,q1,q2]) rfl ⟨_,_,_,_,rfl,hz.boxedN HE.out ac Q0.out _ _,Step.of _ _⟩
  ·have hlt:=qr ((aa:(x.natAbs:Int)<y.natAbs));have HE:Hid (zp nb ((y.natAbs:Int)-x.natAbs)=x+y):=Zh (by subst hsx hsy;unfold zp;by_cases h3:x<0<;>by_cases h4:y<0<;>simp[h3,h4]at hn|-<;>omega);have HS:Hid (∀(W0 W1 W:World)B1 k1 d1 B2 k2 d2,NatV W0 B1 k1 d1 y.natAbs->NatV W1 B2 k2 d2 x.natAbs->Ext W0 W->Ext W1 W->Cq 243 #[.slice B1 k1 d1,.slice B2 k2 d2] W (QG W ((y.natAbs:Int)-x.natAbs) 274877906945)):=Zh (fun W0 W1 W B1 k1 d1 B2 k2 d2 a b e1 e2=>zdu a b (HL.out.2 _ _ _ _ a) aa)
   rw[hlt]at HC;clear hsx hsy hle hn hlt;go_enter Tryz.func180,Tryz.ntmps180;go_wp2;go_region_held3 (fun w'=>w'.cell? ⟨w.heap.size,0,none⟩=some (.bool na)/\w'.cell? ⟨w.heap.size,1,none⟩=some (.slice A n c)/\w'.cell? ⟨w.heap.size+1,0,none⟩=some (.bool nb)/\w'.cell? ⟨w.heap.size+1,1,none⟩=some (.slice B k d)) (exact qp w _ (.bool na) (.slice A n c) (.bool nb) (.slice B k d) 102 102)
    (first
     |(go_at_call_of 119 (Value.slice A n c);refine(HTA.out _ Zi).mono ?_;rintro e w4 ⟨B4,k4,d4,rfl,hN4,hs4⟩)
     |(go_at_call_of 119 (Value.slice B k d);refine(HTB.out _ Zi).mono ?_;rintro e w5 ⟨B5,k5,d5,rfl,hN5,hs5⟩))
   all_goals
    go_wp2_with (go_at_call 171;refine(HC.out _ _ _ _ _ _ _ _ _ hN4 hN5 Zi Zi).mono ?_;rintro e w8 ⟨rfl,hs8⟩)
    go_region_held3 (fun w'=>w'.cell? ⟨w.heap.size,0,none⟩=some (.bool na)/\w'.cell? ⟨w.heap.size+1,0,none⟩=some (.bool nb)) (exact zdw w _ (.bool na) (.slice A n c) (.bool nb) (.slice B k d) 102 102)
     (first
      |(go_at_call 243;refine(HS.out _ _ _ _ _ _ _ _ _ hN5 hN4 Zi Zi).mono ?_;rintro e w6 hR6;obtain⟨B6,k6,d6,rfl,hs6,hM6⟩:=zdv nb hR6 aa;clear hR6)
      |(go_at_call 179;refine(hM6 _ Zi).mono ?_;rintro e w7 ⟨g,B7,k7,d7,rfl,hz,hs7⟩;obtain⟨q0,q1,q2,q3,q4,q5⟩:=jy w w7 (.cells #[.bool na,.slice A n c] 102) (.cells #[.bool nb,.slice B k d] 102) (.bool false) (.slice none 0 0) 102))
    all_goals
     have Q0:=Zh q0;clear q0 hM6;go_wp2;exact bodyPost_ret (v:= .agg #[.bool g,.slice B7 k7 d7]) (by simp[results,Tryz.results180,go_sem,q1,q2]) rfl ⟨_,_,_,_,rfl,hz.boxedN HE.out ac Q0.out _ _,Step.of _ _⟩
theorem zfY{nb:Bool}(ha:IntV w0 na A n c x)(hb:IntV w1 nb B k d y)(h1:n<=274877906944)(h2:k<=274877906944)[hx:Ext w0 w][hy:Ext w1 w]:
  Cq 128 #[.agg #[.bool na,.slice A n c],.agg #[.bool nb,.slice B k d]] w (zz w (x-y)):=by
 have hne:=fun W(hh:Ext w1 W)=>zdp (w:=W) hb aa
 have HNE:=Zh hne;have HAD:Hid (∀(W1 W:World)(g2:Bool)B2 k2 d2,IntV W1 g2 B2 k2 d2 (-y)->Ext w0 W->Ext W1 W->Cq 180 #[.agg #[.bool na,.slice A n c],.agg #[.bool g2,.slice B2 k2 d2]] W (zz W (x-y))):=Zh (by
  intro W1 W g2 B2 k2 d2 hz e1 e2;have hk2:k2<=k:=by
   obtain⟨m,rfl,b2,b3,b4,_⟩:=hb;refine hz.len (k:=m.length) ?_;rw[Int.natAbs_neg,<-b4];exact qH b2
  have:=zam (w:=W) ha hz h1 aa;rwa [(aa:x+-y=x-y)]at this)
 clear hne;go_enter Tryz.func128,Tryz.ntmps128;go_wp2;go_region_held3 (fun w'=>w'.cell? ⟨w.heap.size,0,none⟩=some (.bool na)/\w'.cell? ⟨w.heap.size,1,none⟩=some (.slice A n c)/\w'.cell? ⟨w.heap.size+1,0,none⟩=some (.bool nb)/\w'.cell? ⟨w.heap.size+1,1,none⟩=some (.slice B k d)) (exact qp w _ (.bool na) (.slice A n c) (.bool nb) (.slice B k d) 102 102)
  (first
   |(go_at_call 124;refine(HNE.out _ Zi).mono ?_;rintro e w6 ⟨g6,B6,k6,d6,rfl,hz6,hs6⟩)
   |(go_at_call 180;refine(HAD.out _ _ _ _ _ _ hz6 Zi Zi).mono ?_;rintro e w7 ⟨g,B7,k7,d7,rfl,hz,hs7⟩;obtain⟨q0,q1,q2,q3,q4,q5⟩:=jy w w7 (.cells #[.bool na,.slice A n c] 102) (.cells #[.bool nb,.slice B k d] 102) (.bool false) (.slice none 0 0) 102))
 all_goals
  have Q0:=Zh q0;clear q0;go_wp2;exact bodyPost_ret (v:= .agg #[.bool g,.slice B7 k7 d7]) (by simp[results,Tryz.results128,go_sem,q1,q2]) rfl ⟨_,_,_,_,rfl,hz.boxed ac Q0.out _ _,Step.of _ _⟩
theorem zlf{x y x' y' x2 y2:Value}{T:TypeId}(h:Ext (((w.alloc (.cells #[x,y] T)).alloc (.cells #[x',y'] T)).alloc (.cells #[x2,y2] T)) w'):
  w'.cell? ⟨w.heap.size,0,none⟩=some x/\w'.cell? ⟨w.heap.size,1,none⟩=some y/\w'.cell? ⟨w.heap.size+1,0,none⟩=some x'/\w'.cell? ⟨w.heap.size+1,1,none⟩=some y':=by
 have h1:Ext ((w.alloc (.cells #[x,y] T)).alloc (.cells #[x',y'] T)) w':=Ext.trans Zi h;exact qp w w' x y x' y' T T
theorem zan{nb:Bool}(ha0:IntV w0 na A n c x)(hb0:IntV w1 nb B k d y)(h1:n<=274877906944)(h2:k<=274877906944)[hx:Ext w0 w][hy:Ext w1 w]:
  Cq 125 #[.agg #[.bool na,.slice A n c],.agg #[.bool nb,.slice B k d]] w (zz w (x*y)):=by
 obtain⟨l,rfl,hl,tl,hv,hsx,hi,h7,h8⟩:=id ha0;obtain⟨m,rfl,hm,tm,hv',hsy,hi',h7',h8'⟩:=id hb0;have ha:=hi.ext hx;have hb:=hi'.ext hy;have HE:=Zh (show zp (na !=nb) (val l*val m)=x*y by
  subst hsx hsy;rw[hv,hv',<-Int.natCast_mul,<-Int.natAbs_mul];unfold zp;by_cases hx:x<0<;>by_cases hy:y<0<;>simp[hx,hy]
  ·have:=Int.mul_pos_of_neg_of_neg hx hy;omega
  ·have:=Int.mul_nonpos_of_nonpos_of_nonneg (Int.le_of_lt hx) (aa:0<=y);omega
  ·have:=Int.mul_nonpos_of_nonneg_of_nonpos (aa:0<=x) (Int.le_of_lt hy);omega
  ·have:=Int.mul_nonneg (aa:0<=x) (aa:0<=y);omega)
 clear hv hv' hsx hsy hi hi';have hmk:=qz (P:=Tryz.prog) Tryz.underlying100 Tryz.infoU32 aa ((l.length:Int)+m.length) aa aa;obtain⟨W3,hW3⟩:=Xz ((((w.alloc (.cells #[.bool na,.slice A l.length c] 102)).alloc (.cells #[.bool nb,.slice B m.length d] 102)).alloc (.cells #[.bool false,.slice none 0 0] 102)));have HW3:=Zh hW3;have HBX:Hid (∀wr,Ext W3 wr->wr.cell? ⟨w.heap.size,0,none⟩=some (.bool na)/\wr.cell? ⟨w.heap.size,1,none⟩=some (.slice A l.length c)/\wr.cell? ⟨w.heap.size+1,0,none⟩=some (.bool nb)/\wr.cell? ⟨w.heap.size+1,1,none⟩=some (.slice B m.length d)):=Zh (fun wr h=>by subst hW3;exact zlf h)
 have HSZ:Hid (W3.heap.size=w.heap.size+1+1+1):=Zh (by subst hW3;simp);have HXW:Hid (Ext w W3):=Zh (by subst hW3;exact Zi);have HRM:Hid (Row (W3.alloc (.cells (zO (l.length+m.length) .u32) 212)) (w.heap.size+1+1+1) 212 .u32 (List.replicate (l.length+m.length) 0)):=Zh (by rw[<-HSZ.out];exact Row.made W3 _ _ _);clear hW3;go_enter Tryz.func125,Tryz.ntmps125;go_wp2;go_loopw [6,7,8,9,10,22] (fun _ _ _ _ _ i wr=>∃(k:Nat) (p:List Int),k<=l.length/\i= .int .i64 k/\Hid (p.length=l.length+m.length)/\Limbs p/\ZeroFrom p (k+m.length)/\Hid (val p=val (l.take k)*val m)/\Row wr (w.heap.size+1+1+1) 212 .u32 p/\Ext W3 wr) (fun _ _ _ _ _ i _=>l.length-(intOf i).toNat)
 case atStart=>
  refine⟨0,List.replicate (l.length+m.length) 0,aa,rfl,Zh af,?_,?_,?_,?_,?_⟩
  ·intro x hx;rw[List.eq_of_mem_replicate hx];omega
  ·intro j x _ hx;exact List.eq_of_mem_replicate (Zm hx)
  ·refine Zh ?_;rw[zdd];simp[val]
  ·rw[<-HW3.out];exact HRM.out
  ·rw[<-HW3.out];exact Zi
 case round=>
  obtain⟨k,p,hk,rfl,HP,hp,hz,hv,zsr,hxr⟩:=hrel;obtain⟨p1,p2,p3,p4⟩:=HBX.out _ hxr;have hxw:Ext w wr:=HXW.out.trans hxr;by_cases hlt:k<l.length
  ·obtain⟨b,o,x,rfl,hx',hcx,hbx⟩:=(ha.ext hxw).at_ (i:=k) aa;obtain⟨hx0,hx1⟩:=hl.get hx';have HX:=Zh (ZK hx');clear hx';go_wp2;go_loopw [8,9,10,30] (fun cy _ _ j wr'=>∃(q:Nat) (p':List Int) (cv:Int),q<=m.length/\j= .int .i64 q/\cy= .int .u64 cv/\0<=cv/\cv<4294967296/\Hid (p'.length=l.length+m.length)/\Limbs p'/\ZeroFrom p' (k+m.length)/\Hid (val p'+(4294967296:Int)^(k+q)*cv=val p+(4294967296:Int)^k*(x*val (m.take q)))/\Row wr' (w.heap.size+1+1+1) 212 .u32 p'/\Ext W3 wr') (fun _ _ _ j _=>m.length-(intOf j).toNat)
   case atStart=>exact⟨0,p,0,aa,rfl,rfl,aa,aa,HP,hp,hz,Zh (by simp[val]),zsr,hxr⟩
   case round=>
    obtain⟨q,p',cv,hq,rfl,rfl,hc0,hc1,HP',hp',hz',hv',zsG,ztC⟩:=hrel;obtain⟨r1,r2,r3,r4⟩:=HBX.out _ ztC;have zwx:Ext w wr:=HXW.out.trans ztC;by_cases zsM:q<m.length
    ·obtain⟨b',o',y,rfl,hy',hcy,hby⟩:=(hb.ext zwx).at_ (i:=q) aa;obtain⟨hy0,hy1⟩:=hm.get hy';have HY:=Zh (ZK hy');clear hy';obtain⟨zwm,zwn⟩:=zde x y hx0 hx1 hy0 hy1;obtain⟨r,hr,hcr⟩:=zsG.cell (i:=k+q) (by rw[HP'.out];omega);have hfr:=zsG.frozen (k+q);obtain⟨hr0,hr1⟩:=hp'.get hr;have HR:=Zh hr;clear hr;go_wp2;refine⟨⟨q+1,p'.set (k+q) ((cv+(x*y+r))%4294967296),_,aa,by go_num,rfl,aa,aa,Zh (by rw[List.length_set];exact HP'.out),hp'.set _ aa aa,hz'.set aa _,?_,zsG.set _ _,?_⟩,by simp[intOf]<;>omega⟩
     ·refine Zh ?_;rw[zaY HR.out,HY.out];have e1:=zdb ((4294967296:Int)^(k+q)) (cv+(x*y+r));have e2:=hv'.out;rw[(aa:k+(q+1)=k+q+1),Int.pow_succ];have e3:(4294967296:Int)^k*(x*(val (m.take q)+(4294967296:Int)^q*y))=(4294967296:Int)^k*(x*val (m.take q))+(4294967296:Int)^(k+q)*(x*y):=by
       rw[Int.pow_add,Int.mul_add,Int.mul_add,Int.mul_assoc,Int.mul_left_comm x]
      rw[e3];simp only[Int.mul_sub,Int.mul_add]at e1|-
      omega
     ·exact ztC.setCell (by rw[HSZ.out];exact Zr) _
    ·obtain rfl:q=m.length:=aa
     obtain⟨r,hr,hcr⟩:=zsG.cell (i:=k+m.length) (by rw[HP'.out];omega);have hfr:=zsG.frozen (k+m.length);obtain rfl:r=0:=hz' _ _ Zr hr;have HR:=Zh hr;clear hr;go_wp2;refine⟨⟨k+1,p'.set (k+m.length) cv,aa,by go_num,Zh (by rw[List.length_set];exact HP'.out),hp'.set _ hc0 hc1,(hz'.mono aa).set aa _,?_,zsG.set _ _,?_⟩,by simp[intOf]<;>omega⟩
     ·refine Zh ?_;have e2:=hv'.out;rw[ZU Zr]at e2;rw[zaY HR.out,HX.out,Int.sub_zero,e2,hv.out,Int.add_mul,Int.mul_assoc]
     ·exact ztC.setCell (by rw[HSZ.out];exact Zr) _
  ·obtain rfl:k=l.length:=aa
   have zst:=hv.out;rw[ZU Zr]at zst;have HF:=Zh zst;clear zst hv;have hT:=fun W(hh:Ext wr W)=>za5 (w:=W) (c:=l.length+m.length) (na !=nb) zsr.ints hp (by rw[HP.out];omega) aa (by rw[HP.out];omega)
   rw[HF.out,HE.out,HP.out]at hT;have HT:=Zh hT;clear hT;have zwy:Hid (∀W,Ext wr W->W.heap[w.heap.size+1+1]? =some (.cells #[.bool false,.slice none 0 0] 102 (0,0))):=Zh (fun W hh=>by
    have:Ext W3 W:=hxr.trans hh;rw[HW3.out]at this;exact(jy w W (.cells #[.bool na,.slice A l.length c] 102) (.cells #[.bool nb,.slice B m.length d] 102) (.bool false) (.slice none 0 0) 102).1)
   go_wp2_with (go_at_call 179;refine(HT.out _ Zi).mono ?_;rintro e w7 ⟨g,B7,k7,d7,rfl,hz7,hs7⟩;have Q0:=Zh (zwy.out w7 Zi);obtain⟨q1,q2,q3,q4,q5⟩:=zN Q0.out)
   refine bodyPost_ret (v:= .agg #[.bool g,.slice B7 k7 d7]) (by simp[results,Tryz.results125,go_sem,q1,q2]) rfl ⟨_,_,_,_,rfl,hz7.boxed ac Q0.out _ _,?_⟩;have hxf:Ext w w7:=hxw.trans Zi;exact((hxf.setCell (p:=⟨w.heap.size+1+1,0,none⟩) (by simp;omega) _).setCell (p:=⟨w.heap.size+1+1,1,none⟩) (by simp;omega) _).toStep
end Go.Proofs.YtgoaelchibpffaaGreat

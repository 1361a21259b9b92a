import Derived.Test.YtpijjipngkdhdaaGreatE01
import Derived.Maps.AppendAt
set_option maxHeartbeats 8000000
set_option linter.unusedVariables false
set_option linter.unusedSimpArgs false
namespace Go.Proofs.YtpijjipngkdhdaaGreat
open Go.RowKit
variable {a b t x z:Int} {l m p s:List Int} {c d g i j k n:Nat} {A B:Option Addr} {e te:TypeId} {w w0 w1:World}
theorem Tryz.infoU32:(Tryz.prog.info? 305).map (fun i=>(i.zero,i.size,i.bytes))=some (some (.int .u32 0),1,4):=by kernel_rfl
theorem zef(hx:l[k]? =some x)(h0:x≠0):Tight (l.take (k+1)):=by
 have hi:k<l.length:=(Zg.1 hx).1;have hx':l[k]=x:=(Zg.1 hx).2;rw[List.take_succ_eq_append_getElem hi,hx'];simp[Tight,h0]
theorem zeg(hx:l[k]? =some 0):val (l.take (k+1))=val (l.take k):=by
 rw[ZB hx];simp
def ziD(w:World)(A:Option Addr)(c:Nat)(l:List Int)(e:Ending)(w':World):Prop:=∃m:Nat,m<=l.length/\Tight (l.take m)/\val (l.take m)=val l/\e= .returned (.slice A m c)/\w=w'
theorem JM(h:Ints w A 305 .u32 l)(hc:l.length<=c)(hc2:c<=9223372036854775807):
  Cq 315 #[.slice A l.length c] w (ziD w A c l):=by
 go_enter Tryz.func315,Tryz.ntmps315;go_wp2;go_loop [0] (fun v=>∃m:Nat,m<=l.length/\Hid (val (l.take m)=val l)/\v= .slice A m c) (fun v=>match v with | .slice _ m _=>m|_=>0)
 case atStart=>exact⟨l.length,Zr,by rw[List.take_length];exact Zh rfl,rfl⟩
 case round=>
  obtain⟨m,hm,hv,rfl⟩:=hrel;by_cases h0:0<m
  ·obtain⟨k,rfl⟩:∃k,m=k+1:=⟨m-1,by omega⟩;obtain⟨b,o,x,rfl,hx',zqB,hb⟩:=h.at_ (i:=k) (by omega);have hx:=Zh hx';clear hx';by_cases hx0:x=0
   ·subst hx0;go_wp2;exact⟨⟨k,by omega,by rw[Hid,<-zeg hx.out];exact hv,rfl⟩,by simp⟩
   ·have hx1:(x==0)=false:=by simp[hx0]
    have ht:=Zh (zef hx.out hx0);clear hx0;go_wp2;go_ret;exact⟨k+1,hm,ht.out,hv.out,rfl,rfl⟩
  ·obtain rfl:m=0:=by omega
   go_wp2;go_ret;exact⟨0,by omega,by simp[Tight],hv.out,rfl,rfl⟩
theorem Jf(neg:Bool)(h:Ints w0 A 305 .u32 l)(hl:Limbs l)(ht:Tight l)(hc:l.length<=c)(hc2:c<=9223372036854775807)[hx:Ext w0 w]:
  Cq 352 #[.bool neg,.slice A l.length c] w (zx w (zn neg (val l))):=by
 have h1:=h.ext hx;by_cases h0:l=[]
 ·subst h0;go_enter Tryz.func352,Tryz.ntmps352;go_wp2;refine bodyPost_ret (v:= .agg #[.bool false,.slice none 0 0]) (by simp[results,Tryz.results352,go_sem]) rfl ⟨_,_,_,_,rfl,?_,Step.of _ _⟩
  cases neg<;>simpa[val,zn] using IntV.zero _ none 0 (by omega)
 ·have zqf:0<l.length:=List.length_pos_iff.2 h0;have hz:((l.length:Int)==0)=false:=by simp[h0]
  have hv:0<val l:=by
   have:=qP hl;have:val l≠0:=fun hh=>h0 ((zaq hl ht).1 hh)
   omega
  have zsZ:∀w',Ext w w'->IntV w' neg A l.length c (zn neg (val l)):=fun w' hxw=>by
   refine⟨l,rfl,hl,ht,?_,?_,h1.ext hxw,hc,hc2⟩
   ·cases neg<;>simp[zn]<;>omega
   ·cases neg<;>simp[zn]<;>omega
  have HP:=Zh zsZ;clear h0 h1 hv zsZ;go_enter Tryz.func352,Tryz.ntmps352;go_wp2;exact bodyPost_ret (v:= .agg #[.bool neg,.slice A l.length c]) (by simp[results,Tryz.results352,go_sem]) rfl ⟨_,_,_,_,rfl,HP.out _ Zi,Step.of _ _⟩
theorem zeh(a x:Int)(h1:0<=a)(h2:a<4294967296)(h3:0<=x)(h4:x<4294967296):bits .or .u64 a (x*4294967296)=a+x*4294967296:=by
 rw[u64_or a _ h1 (by omega) (by omega) (by omega),nat_join32' _ _ (by omega) (by omega)];omega
theorem zei(x:Int)(h3:0<=x)(h4:x<18446744073709551616):bits .or .u64 0 x=x:=by
 rw[u64_or 0 _ (by omega) (by omega) (by omega) (by omega)];simp;omega
theorem zej(h:l[0]? =some x):val (l.take 1)=x:=by
 have:=ZB h;simpa[val] using this
theorem za7(h:Ints w A 305 .u32 l)(hl:Limbs l)(h2:l.length<=2):
  Cq 316 #[.slice A l.length c] w (Zj w (.int .u64 (val l))):=by
 go_enter Tryz.func316,Tryz.ntmps316;go_wp2;go_loop [3,8] (fun v i=>∃k:Nat,k<=l.length/\i= .int .i64 k/\v= .int .u64 (val (l.take k))) (fun _ i=>l.length-(intOf i).toNat)
 case atStart=>exact⟨0,by omega,rfl,rfl⟩
 case round=>
  obtain⟨k,hk,rfl,rfl⟩:=hrel;by_cases hlt:k<l.length
  ·obtain rfl|rfl:k=0∨k=1:=by omega
   ·obtain⟨b,o,x,rfl,hx',zqB,hb⟩:=h.at0 hlt;obtain⟨hx0,hx1⟩:=hl.get hx';have hs:=Zh (zej hx');clear hx';simp only[List.take_zero,val];go_wp2;refine⟨⟨1,by omega,rfl,?_⟩,by simp[intOf];omega⟩;rw[zei _ hx0 (by omega),hs.out]
   ·obtain⟨b,o,x,rfl,hx',zqB,hb⟩:=h.at_ hlt;obtain⟨hx0,hx1⟩:=hl.get hx';have hs:=Zh (ZB hx');clear hx';have hy0:=qP (hl.take 1);have hy1:=ZV (hl.take 1);have hy2:(l.take 1).length=1:=by simp;omega
    rw[hy2]at hy1;clear hy2;go_wp2;refine⟨⟨2,by omega,rfl,?_⟩,by simp[intOf];omega⟩;rw[zeh _ _ hy0 (by omega) hx0 hx1,hs.out];congr 1;omega
  ·obtain rfl:k=l.length:=by omega
   go_wp2;go_ret;exact⟨by simp,rfl⟩
theorem zek(n:Int):val [n%4294967296,n / 4294967296]=n:=by
 simp only[val];omega
theorem zar(n:Int)(h0:0<=n)(h1:n<18446744073709551616)(w:World):
  Cq 353 #[.int .u64 n] w (Qa w n):=by
 have hl:Limbs [n%4294967296,n / 4294967296]:=Limbs.cons (by omega) (Limbs.cons (by omega) Limbs.nil);have hi:=Arr.new w 305 #[.int .u32 (n%4294967296),.int .u32 (n / 4294967296)];have hi':Ints (w.alloc (.cells #[.int .u32 (n%4294967296),.int .u32 (n / 4294967296)] 305)) (some ⟨w.heap.size,0,none⟩) 305 .u32 [n%4294967296,n / 4294967296]:=hi;have hc:=JM (c:=2) hi' (by simp) (by omega);have HC:=Zh hc
 clear hc hi;go_enter Tryz.func353,Tryz.ntmps353;go_wp2_with (go_at_call 315;refine(HC.out).mono ?_;rintro e w' ⟨m,hm,ht,hv,rfl,rfl⟩)
 go_ret;refine⟨_,2,[n%4294967296,n / 4294967296].take m,?_,hi'.take m,hl.take m,ht,by rw[hv,zek],?_,by omega,Step.of _ _⟩
 ·have:m<=2:=hm;simp[Nat.min_eq_left this]
 ·simp;omega
theorem ziE(n:Int)(h0:n<0)(h1:-9223372036854775808<=n)(w:World):
  Cq 312 #[.int .i64 n] w (zx w n):=by
 go_enter Tryz.func312,Tryz.ntmps312;go_wp2_with fail
 rw[show IntKind.u64.wrap (-IntKind.u64.wrap n)=-n by simp only[IntKind.wrap_u64];omega];refine(zar (-n) (by omega) (by omega) _).mono ?_;rintro e w1 ⟨B1,d1,l1,rfl,hi1,hl1,ht1,hv1,hd1,hd2,hs1⟩;have HV:=Zh hv1;clear hv1;go_wp2_with fail
 refine(Jf true hi1 hl1 ht1 hd1 hd2).mono ?_;rintro e w2 ⟨g,B,k,d,rfl,hz,hs2⟩;obtain⟨q0,q1,q2,q3,q4,q5⟩:=qu w w2 (.bool false) (.slice none 0 0) 178;have Q0:=Zh q0;clear q0;go_wp2;refine bodyPost_ret (v:= .agg #[.bool g,.slice B k d]) (by simp[results,Tryz.results312,go_sem,q1,q2]) rfl ⟨_,_,_,_,rfl,?_,Step.of _ _⟩;have e1:zn true (val l1)=n:=by rw[HV.out];simp[zn]
 rw[e1]at hz;exact hz.boxed (by decide) Q0.out _ _
theorem ziF(n:Int)(h0:0<=n)(h1:n<=9223372036854775807)(w:World):
  Cq 312 #[.int .i64 n] w (zx w n):=by
 go_enter Tryz.func312,Tryz.ntmps312;go_wp2_with fail
 try rw[show IntKind.u64.wrap n=n by simp only[IntKind.wrap_u64];omega]
 refine(zar n (by omega) (by omega) _).mono ?_;rintro e w1 ⟨B1,d1,l1,rfl,hi1,hl1,ht1,hv1,hd1,hd2,hs1⟩;have HV:=Zh hv1;clear hv1;go_wp2_with fail
 refine(Jf false hi1 hl1 ht1 hd1 hd2).mono ?_;rintro e w2 ⟨g,B,k,d,rfl,hz,hs2⟩;obtain⟨q0,q1,q2,q3,q4,q5⟩:=qu w w2 (.bool false) (.slice none 0 0) 178;have Q0:=Zh q0;clear q0;go_wp2;refine bodyPost_ret (v:= .agg #[.bool g,.slice B k d]) (by simp[results,Tryz.results312,go_sem,q1,q2]) rfl ⟨_,_,_,_,rfl,?_,Step.of _ _⟩;have e1:zn false (val l1)=n:=by rw[HV.out];simp[zn]
 rw[e1]at hz;exact hz.boxed (by decide) Q0.out _ _
theorem zca(n:Int)(h0:-9223372036854775808<=n)(h1:n<=9223372036854775807)(w:World):
  Cq 312 #[.int .i64 n] w (zx w n):=by
 by_cases h:n<0
 ·exact ziE n h h0 w
 ·exact ziF n (by omega) h1 w
def zk(a b:Int):Int:=if a<b then-1 else if a=b then 0 else 1
theorem qj(h:a<b):zk a b=-1:=by simp[zk,h]
theorem qC(h:b<a):zk a b=1:=by simp[zk];omega
theorem Qb(h:a=b):zk a b=0:=by simp[zk,h]
theorem jP(hl:Limbs l)(hm:Limbs m)(ht:Tight m)(h:l.length<m.length):val l<val m:=by
 have h1:=ZV hl;have h2:=zb9 hm ht (by omega);have h3:=JL (m:=l.length) (n:=m.length-1) (by omega);omega
theorem za8(k:Nat):val l=val (l.take k)+(4294967296:Int)^(l.take k).length*val (l.drop k):=by
 rw[<-zee,List.take_append_drop]
theorem za9(hl:Limbs l)(hm:Limbs m){y:Int}(hx:l[k]? =some x)(hy:m[k]? =some y)(hd:l.drop (k+1)=m.drop (k+1))(h:x<y):val l<val m:=by
 have hk:k<l.length:=(Zg.1 hx).1;have hk':k<m.length:=(Zg.1 hy).1;rw[za8 (l:=l) (k+1),za8 (l:=m) (k+1),hd,ZB hx,ZB hy];rw[List.length_take,List.length_take,Nat.min_eq_left (by omega),Nat.min_eq_left (by omega)];have h1:=ZV (hl.take k);rw[List.length_take,Nat.min_eq_left (by omega)]at h1;have h2:=qP (hm.take k);have h3:(4294967296:Int)^k*(x+1)<=(4294967296:Int)^k*y:=Int.mul_le_mul_of_nonneg_left (by omega) (by have:=QI k;omega)
 rw[Int.mul_add]at h3;omega
theorem ziG(ha:Ints w A 305 .u32 l)(hb:Ints w B 305 .u32 m)(hl:Limbs l)(hm:Limbs m)
  (h1:l.length<=9223372036854775807) (hn:m.length=l.length):
  Cq 389 #[.slice A l.length c,.slice B l.length d] w (zz w (.int .i64 (zk (val l) (val m)))):=by
 have HN:=Zh hn;clear hn;go_enter Tryz.func389,Tryz.ntmps389;go_wp2;go_loopw [5] (fun i wr=>∃k:Nat,k<=l.length/\i= .int .i64 ((k:Int)-1)/\Hid (l.drop k=m.drop k)/\Ext w wr) (fun i _=>(intOf i+1).toNat)
 case atStart=>exact⟨l.length,by omega,rfl,by simp[Hid,HN.out],Zi⟩
 case round=>
  obtain⟨k,hk,rfl,hd,hxr⟩:=hrel
  cases k with
  |zero=>
   go_wp2;go_ret;refine⟨?_,hxr.toStep⟩;have:=hd.out;simp only[List.drop_zero]at this;rw[Qb (by rw[this])];rfl
  |succ j=>
   obtain⟨b,o,x,rfl,hx',hcx,hbx⟩:=(ha.ext hxr).at_ (i:=j) (by omega);obtain⟨b',o',y,rfl,hy',hcy,hby⟩:=(hb.ext hxr).at_ (i:=j) (by have:=HN.out;omega);obtain⟨hx0,hx1⟩:=hl.get hx';obtain⟨hy0,hy1⟩:=hm.get hy';have HX:=Zh hx';have HY:=Zh hy';clear hx' hy';rw[show ((j+1:Nat):Int)-1=(j:Int) by omega];by_cases hlt:x<y
   ·have zsm:decide (x<y)=true:=by simpa using hlt
    have e1:=Zh (qj (za9 hl hm HX.out HY.out hd.out hlt));go_wp2;go_quiet (fail)
    go_wp2;go_ret;exact⟨by rw[e1.out];rfl,(Zi:Ext w (wr.drewN nq)).toStep⟩
   ·by_cases hgt:y<x
    ·have zsm:decide (x<y)=false:=by simpa using hlt
     have zvp:decide (y<x)=true:=by simpa using hgt
     have e1:=Zh (qC (za9 hm hl HY.out HX.out hd.out.symm hgt));clear hlt;go_wp2;go_quiet (fail)
     go_wp2;go_quiet (fail)
     go_wp2;go_ret;exact⟨by rw[e1.out];rfl,(Zi:Ext w _).toStep⟩
    ·obtain rfl:x=y:=by omega
     have hd':Hid (l.drop j=m.drop j):=by
      have h1:j<l.length:=(Zg.1 HX.out).1;have h2:j<m.length:=(Zg.1 HY.out).1;unfold Hid;rw[List.drop_eq_getElem_cons h1,List.drop_eq_getElem_cons h2,hd.out,(Zg.1 HX.out).2,(Zg.1 HY.out).2]
     clear hlt hgt;go_wp2;go_quiet (fail)
     go_wp2;go_quiet (fail)
     go_wp2;exact⟨⟨j,by omega,rfl,hd',Zi⟩,by simp[intOf]<;>omega⟩
theorem zcb(ha:Ints w0 A 305 .u32 l)(hb:Ints w1 B 305 .u32 m)(hl:Limbs l)(hm:Limbs m)(tl:Tight l)(tm:Tight m)
  (h1:l.length<=9223372036854775807) (h2:m.length<=9223372036854775807) [hx:Ext w0 w] [hy:Ext w1 w]:
  Cq 389 #[.slice A l.length c,.slice B m.length d] w (zz w (.int .i64 (zk (val l) (val m)))):=by
 by_cases hlt:l.length<m.length
 ·have e1:=Zh (qj (jP hl hm tm hlt));go_enter Tryz.func389,Tryz.ntmps389;go_wp2;go_ret;exact⟨by rw[e1.out];rfl,Step.of _ _⟩
 by_cases hgt:m.length<l.length
 ·have e1:=Zh (qC (jP hm hl tl hgt));go_enter Tryz.func389,Tryz.ntmps389;go_wp2;go_ret;exact⟨by rw[e1.out];rfl,Step.of _ _⟩
 have hn:m.length=l.length:=by omega
 rw[hn];exact ziG (ha.ext hx) (hb.ext hy) hl hm h1 hn
def Own(w:World)(ze:Nat)(e:TypeId)(size:Nat)(A:Option Addr)(n c:Nat)(xs:List Value):Prop:=w.ownsRow ze e size (.slice A n c) n xs
structure Grow(ze:Nat)(e:TypeId)(w w':World):Prop where
 below:Below ze w w'
 typed:∀k:Nat,k<w.heap.size->(∀(cs:Array Value)(fr:Nat×Nat),w.heap[k]?≠some (Obj.cells cs e fr))->w'.heap[k]? =w.heap[k]?
section
variable {w w' w0:World} {ze:Nat} {e e':TypeId} {size:Nat} {A:Option Addr} {n c:Nat} {xs vs:List Value}
theorem Own.nil(w:World)(ze:Nat)(e:TypeId)(size:Nat):Own w ze e size none 0 0 []:=World.ownsRow_nil w ze e size
theorem Own.len(h:Own w ze e size A n c xs):xs.length=n*size:=h.1
theorem Own.cap(h:Own w ze e size A n c xs):n<=c/\c<=9223372036854775807:=by
 rcases h.2 with ⟨hv,hn⟩|⟨g,cap,cur,hv,_,_,h1,h2,_⟩
 ·injection hv with _ _ hc;subst hc;subst hn;omega
 ·injection hv with _ _ hc;subst hc;simp only[maxLen]at h2;omega
theorem Own.ext(h:Own w ze e size A n c xs)(hx:Ext w w'):Own w' ze e size A n c xs:=by
 refine⟨h.1,?_⟩;rcases h.2 with hv|⟨g,cap,cur,hv,h1,h2,h3⟩
 ·exact .inl hv
 ·exact .inr ⟨g,cap,cur,hv,h1,zh hx h2,h3⟩
theorem Own.arr(h:Own w ze e size A n c xs):Arr w A e xs:=fun h0=>by
 rcases h.2 with ⟨hv,hn⟩|⟨g,cap,cur,hv,h1,h2,_,_,_,h4⟩
 ·have:=h.1;rw[hn]at this;omega
 ·injection hv with hA
  refine⟨g,0,cur,(0,0),hA,h2,fun j u hu=>?_⟩;rw[Nat.zero_add,<-Array.getElem?_toList];rw[<-h4,List.getElem?_take]at hu;split at hu
  ·exact hu
  ·simp at hu
theorem Own.lower(h:Own w ze e size A n c xs){base':Nat}(hb:base'<=ze):Own w base' e size A n c xs:=by
 refine⟨h.1,?_⟩;rcases h.2 with hv|⟨g,cap,cur,hv,h1,h2,h3⟩
 ·exact .inl hv
 ·exact .inr ⟨g,cap,cur,hv,by omega,h2,h3⟩
theorem Grow.refl(ze:Nat)(e:TypeId)(w:World):Grow ze e w w:=⟨Below.refl _ _,fun _ _ _=>rfl⟩
theorem Grow.ext(h:Grow ze e w w')(hx:Ext w0 w)(hb:w0.heap.size<=ze):Ext w0 w':=⟨hx.below.trans (h.below.mono hb)⟩
theorem Arr.grow(h:Arr w A e' vs)(hg:Grow ze e w w')(hne:e'≠e):Arr w' A e' vs:=
 h.keep fun b cs fr hb=>hg.typed b (zw hb) fun cs' fr' hh=>by rw[hb]at hh;injection hh with hh;injection hh with _ he;exact hne he
theorem Ints.grow{k:IntKind}(h:Ints w A e' k l)(hg:Grow ze e w w')(hne:e'≠e):Ints w' A e' k l:=Arr.grow h hg hne
theorem IntV.grow{neg:Bool}(h:IntV w neg A n c z)(hg:Grow ze e w w')(hne:305≠e):IntV w' neg A n c z:=by
 obtain⟨l,h1,h2,h3,h4,h5,h6,h7⟩:=h;exact⟨l,h1,h2,h3,h4,h5,h6.grow hg hne,h7⟩
end
section
variable {P:Program} (w:World)
theorem ziH(ze:Nat)(t ty e:TypeId)(i:TypeInfo)(size:Nat)(ht:P.underlying t=some (.slice e))(hi:P.info? e=some i)
  (v:Value) (n:Nat) (xs:List Value) (zqd:w.ownsRow ze e size v n xs) (c:Nat):(Builtin.append_ #[t,t] ty #[v,.slice none 0 c]).run P w= .ok v w:=by
 rcases zqd.2 with ⟨rfl,rfl⟩|⟨g,cap,cur,rfl,_,_,hnc,_⟩
 ·simp[Builtin.append_,run_underlying ht,sizeOf,typeInfo,hi,Builtin.lenOf,Builtin.firstCells]
 ·simp[Builtin.append_,run_underlying ht,sizeOf,typeInfo,hi,Builtin.lenOf,Builtin.firstCells,hnc,storeCells]
theorem zel{w w':World}{ze:Nat}{size:Nat}{v:Value}{xs:List Value}(zqd:w.ownsRow ze e size v n xs)(hg:w.grownBy w' v.ownBlock)(zqC:ze<=w.heap.size):Grow ze e w w':=by
 have zqe:∀k,v.ownBlock=some k->ze<=k:=fun k hk=>(zqd.lt k hk).1
 refine⟨(Below.refl ze w).grown hg zqC zqe,fun k hk hne=>hg.block k hk fun hh=>?_⟩;rcases zqd.2 with ⟨rfl,_⟩|⟨g,cap,cur,rfl,_,h2,_⟩
 ·simp[Value.ownBlock]at hh
 ·have:k=g:=by simpa[Value.ownBlock] using hh
  subst this;exact hne _ _ h2
theorem ziI(ze:Nat)(t ty e:TypeId)(z:Value)(size bytes:Nat)(ht:P.underlying t=some (.slice e))(hi:(P.info? e).map (fun i=>(i.zero,i.size,i.bytes))=some (some z,size,bytes))
  (hzs:z.cells.size=size) (hsz:0<size) (hb:bytes<=128)
  (A:Option Addr) (n c:Nat) (xs:List Value) (zqd:Own w ze e size A n c xs)
  (A':Option Addr) (m c':Nat) (news:List Value) (zqy:Arr w A' te news) (hl:news.length=m*size) (h1:∀u∈news,u.oneCell'=true)
  (h63:n+m<=1099511627776) (zqC:ze<=w.heap.size):
  ∃A1 c1 w',(Builtin.append_ #[t,t] ty #[.slice A n c,.slice A' m c']).run P w= .ok (.slice A1 (n+m) c1) w'/\Own w' ze e size A1 (n+m) c1 (xs++news)/\Grow ze e w w':=by
 obtain⟨i,hi1,hz,hs,hby⟩:=info_parts hi;have zsn:(n+m)*bytes<=140737488355328:=by
  have:(n+m)*bytes<=(n+m)*128:=Nat.mul_le_mul_left _ hb;omega
 have key:∀(v':Value)(w':World),w'.ownsRow ze e size v' (n+m) (xs++news)->∃A1 c1,v'= .slice A1 (n+m) c1:=by
  intro v' w' h;rcases h.2 with ⟨rfl,hn⟩|⟨g,cap,cur,rfl,_⟩
  ·exact⟨none,0,by rw[hn]⟩
  ·exact⟨_,cap,rfl⟩
 rcases A' with _|ad
 ·have hm:m=0:=by
   rcases Nat.eq_zero_or_pos m with h0|h0
   ·exact h0
   ·have:0<news.length:=by rw[hl];exact Nat.mul_pos h0 hsz
    obtain⟨b,o,_,_,h,_⟩:=zqy this
    cases h
  subst hm;have hn:news=[]:=List.eq_nil_of_length_eq_zero (by simpa using hl);subst hn;exact⟨A,c,w,ziH w ze t ty e i size ht hi1 _ n xs zqd c',by simpa[Own] using zqd,Grow.refl _ _ _⟩
 ·have zqM:∀j u,news[j]? =some u->w.cell? (ad.add j)=some u:=by
   intro j u hu;obtain⟨b,o,h,hc,_⟩:=zqy.at_ hu;injection h with h
   subst h;have:(⟨b,o,none⟩:Addr).add j=⟨b,o+j,none⟩:=by
    unfold Addr.add;split
    ·simp_all
    ·rfl
   rw[this];exact hc
  obtain⟨v',w',zqv,h2,h3,_,_⟩:=run_append_own_at (P:=P) w ze t ty e i z size bytes ht hi1 hz hs hby hzs hsz _ n xs zqd ad m c' news hl zqM h1 (by simp only[maxLen];omega) zsn zqC;obtain⟨A1,c1,rfl⟩:=key _ _ h2;exact⟨A1,c1,w',zqv,h2,zel zqd h3 zqC⟩
theorem zem{o:Oper}{a:Act}{K:Act->World->Prop}{Q:Exit->Act->World->Prop}(s x:Operand)(t:TypeId)
  (ho:o.op= .call {callee:= .builtin .append,args:=#[s,x],argTypes:=#[t,t]})
  (ze:Nat) (e:TypeId) (z:Value) (size bytes:Nat) (ht:P.underlying t=some (.slice e)) (hi:(P.info? e).map (fun i=>(i.zero,i.size,i.bytes))=some (some z,size,bytes))
  (hzs:z.cells.size=size) (hsz:0<size) (hb:bytes<=128)
  (A:Option Addr) (n c:Nat) (xs:List Value) (hs:a.eval s= .slice A n c) (zqd:Own w ze e size A n c xs)
  (A':Option Addr) (m c':Nat) (news:List Value) (hx:a.eval x= .slice A' m c') (zqy:Arr w A' te news) (hl:news.length=m*size) (h1:∀u∈news,u.oneCell'=true)
  (h63:n+m<=1099511627776) (zqC:ze<=w.heap.size)
  (h:∀A1 c1 w',Own w' ze e size A1 (n+m) c1 (xs++news)->Grow ze e w w'->K (a.put o.dst (.slice A1 (n+m) c1)) w'):o.wp P a w K Q:=by
 obtain⟨A1,c1,w',zqv,h2,h3⟩:=ziI (P:=P) w ze t o.type e z size bytes ht hi hzs hsz hb A n c xs zqd A' m c' news zqy hl h1 h63 zqC;unfold Oper.wp execOp;simp only[ho,resolve,invoke,builtin,Sem.run_bind,Sem.run_pure,Result.andThen_ok,List.map_toArray,List.map_cons,List.map_nil,hs,hx,zqv];exact h A1 c1 w' h2 h3
theorem Zd{ops:Array Oper}{rest:List Oper}{o:Oper}{a:Act}{Q:Exit->Act->World->Prop}(hgd:o.guard=none)(s x:Operand)(t:TypeId)
  (ho:o.op= .call {callee:= .builtin .append,args:=#[s,x],argTypes:=#[t,t]})
  (ze:Nat) (e:TypeId) (z:Value) (size bytes:Nat) (ht:P.underlying t=some (.slice e)) (hi:(P.info? e).map (fun i=>(i.zero,i.size,i.bytes))=some (some z,size,bytes))
  (hzs:z.cells.size=size) (hsz:0<size) (hb:bytes<=128)
  (A:Option Addr) (n c:Nat) (xs:List Value) (hs:a.eval s= .slice A n c) (zqd:Own w ze e size A n c xs)
  (A':Option Addr) (m c':Nat) (news:List Value) (hx:a.eval x= .slice A' m c') (zqy:Arr w A' te news) (hl:news.length=m*size) (h1:∀u∈news,u.oneCell'=true)
  (h63:n+m<=1099511627776) (zqC:ze<=w.heap.size)
  (h:∀A1 c1 w',Own w' ze e size A1 (n+m) c1 (xs++news)->Grow ze e w w'->wpList P ops Q rest (a.put o.dst (.slice A1 (n+m) c1)) w'):wpList P ops Q (o::rest) a w:=
 wpList_plain hgd fun _ hK=>zem w s x t ho ze e z size bytes ht hi hzs hsz hb A n c xs hs zqd A' m c' news hx zqy hl h1 h63 zqC fun A1 c1 w' h2 h3=>hK _ _ (h A1 c1 w' h2 h3)
theorem QJ{ops:Array Oper}{o:Oper}{a:Act}{K:Act->World->Prop}{Q:Exit->Act->World->Prop}{E:Prop}(hgd:o.guard=none)(s x:Operand)(t:TypeId)
  (ho:o.op= .call {callee:= .builtin .append,args:=#[s,x],argTypes:=#[t,t]})
  (ze:Nat) (e:TypeId) (z:Value) (size bytes:Nat) (ht:P.underlying t=some (.slice e)) (hi:(P.info? e).map (fun i=>(i.zero,i.size,i.bytes))=some (some z,size,bytes))
  (hzs:z.cells.size=size) (hsz:0<size) (hb:bytes<=128)
  (A:Option Addr) (n c:Nat) (xs:List Value) (hs:a.eval s= .slice A n c) (zqd:Own w ze e size A n c xs)
  (A':Option Addr) (m c':Nat) (news:List Value) (hx:a.eval x= .slice A' m c') (zqy:Arr w A' te news) (hl:news.length=m*size) (h1:∀u∈news,u.oneCell'=true)
  (h63:n+m<=1099511627776) (zqC:ze<=w.heap.size)
  (h:∀A1 c1 w',Own w' ze e size A1 (n+m) c1 (xs++news)->Grow ze e w w'->K (a.put o.dst (.slice A1 (n+m) c1)) w'):
  if Region.wanted o (yielded ops a.tmps)=true then Oper.wp P o a w K Q else E:=by
 have hw:Region.wanted o (yielded ops a.tmps)=true:=by simp[Region.wanted,hgd]
 rw[if_pos hw];exact zem w s x t ho ze e z size bytes ht hi hzs hsz hb A n c xs hs zqd A' m c' news hx zqy hl h1 h63 zqC h
end
theorem Jg(h:j<=l.length):(l.take j).length=j:=by rw[List.length_take,Nat.min_eq_left h]
theorem zcc(P t:Int):P*(t%4294967296)+P*4294967296*(t / 4294967296)=P*t:=by
 rw[Int.mul_assoc,<-Int.mul_add];congr 1
 omega
theorem Qc(hk:s.length=k)(cy t V W:Int)(h:val s+(4294967296:Int)^k*cy=V)(ht:(4294967296:Int)^k*(t-cy)=W):
  val (s++[t%4294967296])+(4294967296:Int)^(k+1)*(t / 4294967296)=V+W:=by
 rw[Je,hk,Int.pow_succ,Int.add_assoc,zcc,<-h,<-ht,Int.mul_sub];omega
theorem ZI(h:l.length<=k):val (l.take k)=val l:=by rw[List.take_of_length_le h]
theorem qk(h:s.length=k)(x:Int):(s++[x]).length=k+1:=by simp[h]
theorem Limbs.snoc(h:Limbs s)(h0:0<=t)(h1:t<4294967296):Limbs (s++[t]):=h.append (Limbs.cons ⟨h0,h1⟩ Limbs.nil)
theorem Row.drewN{k:IntKind}(h:Row w g e k l)(n:Nat):Row (w.drewN n) g e k l:=h
theorem Row.fill{k:IntKind}(h:Row w g e k (s++List.replicate n 0))(hn:0<n)(hi:s.length=i)(x:Int):
  Row (w.setCell ⟨g,i,none⟩ (.int k x)) g e k ((s++[x])++List.replicate (n-1) 0):=by
 have:=h.set i x;rw[<-hi]at this|-
 rwa [ziC s n x hn]at this
theorem ziJ(ha:Ints w A 305 .u32 l)(hb:Ints w B 305 .u32 m)(hl:Limbs l)(hm:Limbs m)
  (h1:l.length<=1099511627776) (hn:m.length<=l.length):
  Cq 380 #[.slice A l.length c,.slice B m.length d] w (Qa w (val l+val m)):=by
 have hmk:=Qt (P:=Tryz.prog) Tryz.underlying176 Tryz.infoU32 (by omega) ((l.length:Int)+1) (by omega) (by omega);go_enter Tryz.func380,Tryz.ntmps380;go_wp2;go_loopw [6,7,22] (fun c _ i wr=>∃(k:Nat) (s:List Int) (cy:Int),k<=m.length/\i= .int .i64 k/\c= .int .u64 cy/\0<=cy/\cy<=1/\Hid (s.length=k)/\Limbs s/\Hid (val s+(4294967296:Int)^k*cy=val (l.take k)+val (m.take k))/\Row wr w.heap.size 305 .u32 (s++List.replicate (l.length+1-k) 0)/\Ext w wr) (fun _ _ i _=>m.length-(intOf i).toNat)
 case atStart=>exact⟨0,[],0,by omega,rfl,rfl,by omega,by omega,Zh rfl,Limbs.nil,by simp[Hid,val],by simpa using Row.made w _ _ _,Zi⟩
 case round=>
  obtain⟨k,s,cy,hk,rfl,rfl,hc0,hc1,HS,hs,hv,zqe,hxr⟩:=hrel;by_cases hlt:k<m.length
  ·obtain⟨b,o,x,rfl,hx',hcx,hbx⟩:=(ha.ext hxr).at_ (i:=k) (by omega);obtain⟨b',o',y,rfl,hy',hcy,hby⟩:=(hb.ext hxr).at_ (i:=k) (by omega);obtain⟨hx0,hx1⟩:=hl.get hx';obtain⟨hy0,hy1⟩:=hm.get hy';have HX:=Zh (ZB hx');have HY:=Zh (ZB hy');clear hx' hy';obtain⟨q,hq,hcq⟩:=zqe.cell (i:=k) (by simp[HS.out];omega);have hfq:=zqe.frozen k;clear hq;go_wp2;go_quiet (fail)
   go_wp2;refine⟨⟨k+1,s++[(cy+(x+y))%4294967296],_,by omega,by go_num,rfl,by omega,by omega,Zh (qk HS.out _),hs.snoc (by omega) (by omega),?_,?_,Zi⟩,by simp[intOf]<;>omega⟩
   ·refine Zh ?_;rw[Qc HS.out cy (cy+(x+y)) _ ((4294967296:Int)^k*x+(4294967296:Int)^k*y) hv.out (by rw[<-Int.mul_add];congr 1;omega),HX.out,HY.out];omega
   ·rw[show l.length+1-(k+1)=l.length+1-k-1 by omega];exact(zqe.drewN nq).fill (by omega) HS.out _
  ·obtain rfl:k=m.length:=by omega
   have hv':=hv.out;rw[ZI Zr]at hv';have HV:=Zh hv';clear hv hv' hlt;go_wp2;go_loopw [6,8,51] (fun c _ i wr=>∃(k:Nat) (s:List Int) (cy:Int),m.length+k<=l.length/\i= .int .i64 k/\c= .int .u64 cy/\0<=cy/\cy<=1/\Hid (s.length=m.length+k)/\Limbs s/\Hid (val s+(4294967296:Int)^(m.length+k)*cy=val (l.take (m.length+k))+val m)/\Row wr w.heap.size 305 .u32 (s++List.replicate (l.length+1-(m.length+k)) 0)/\Ext w wr) (fun _ _ i _=>l.length-m.length-(intOf i).toNat)
   case atStart=>exact⟨0,s,cy,by omega,rfl,rfl,hc0,hc1,HS,hs,HV,zqe,hxr⟩
   case round=>
    clear HV HS zqe hs hxr hc0 hc1;obtain⟨k,s,cy,hk,rfl,rfl,hc0,hc1,HS,hs,hv,zqe,hxr⟩:=hrel;by_cases hlt:m.length+k<l.length
    ·obtain⟨b,o,x,rfl,hx',hcx,hbx⟩:=(ha.ext hxr).at_ (i:=m.length+k) (by omega);obtain⟨hx0,hx1⟩:=hl.get hx';have HX:=Zh (ZB hx');clear hx';obtain⟨q,hq,hcq⟩:=zqe.cell (i:=m.length+k) (by simp[HS.out];omega);have hfq:=zqe.frozen (m.length+k);clear hq;go_wp2;refine⟨⟨k+1,s++[(cy+x)%4294967296],_,by omega,by go_num,rfl,by omega,by omega,Zh (qk HS.out _),hs.snoc (by omega) (by omega),?_,?_,Zi⟩,by simp[intOf]<;>omega⟩
     ·refine Zh ?_;rw[show m.length+(k+1)=m.length+k+1 by omega,Qc HS.out cy (cy+x) _ ((4294967296:Int)^(m.length+k)*x) hv.out (by congr 1;omega),HX.out];omega
     ·rw[show l.length+1-(m.length+(k+1))=l.length+1-(m.length+k)-1 by omega];exact zqe.fill (by omega) HS.out _
    ·have hk':m.length+k=l.length:=by omega
     rw[hk']at hv zqe HS;rw[show l.length+1-l.length=1 by omega]at zqe;have zqg:=hv.out;rw[ZI Zr]at zqg;have HF:=Zh zqg;clear zqg hv hk';obtain⟨q,hq,hcq⟩:=zqe.cell (i:=l.length) (by simp[HS.out]);have hfq:=zqe.frozen l.length;clear hq;have zqu:=zqe.fill (by omega) HS.out cy;simp only[Nat.sub_self,List.replicate_zero,List.append_nil]at zqu;have zqf:(s++[cy]).length=l.length+1:=qk HS.out _
     have hT:=JM (c:=l.length+1) zqu.ints (by omega) (by omega);rw[zqf]at hT;have HT:=Zh hT;have HL:=Zh zqf;clear hT zqf;go_wp2_with (go_at_call 315;refine(HT.out).mono ?_;rintro e w' ⟨j,hj,ht,htv,rfl,rfl⟩)
     go_ret;have hLs:Limbs (s++[cy]):=hs.snoc hc0 (by omega);refine⟨_,l.length+1,(s++[cy]).take j,?_,zqu.ints.take j,hLs.take j,ht,?_,?_,?_,Step.of _ _⟩
     ·rw[Jg hj];rfl
     ·rw[htv,Je,HS.out,HF.out]
     ·simp;have:=HL.out;simp at this;omega
     ·omega
theorem ziK(ha:Ints w A 305 .u32 l)(hb:Ints w B 305 .u32 m)(hl:Limbs l)(hm:Limbs m)
  (h1:l.length<=1099511627776) (hn:m.length<l.length):
  Cq 380 #[.slice B m.length d,.slice A l.length c] w (Qa w (val l+val m)):=by
 have hmk:=Qt (P:=Tryz.prog) Tryz.underlying176 Tryz.infoU32 (by omega) ((l.length:Int)+1) (by omega) (by omega);go_enter Tryz.func380,Tryz.ntmps380;go_wp2;go_loopw [6,7,22] (fun c _ i wr=>∃(k:Nat) (s:List Int) (cy:Int),k<=m.length/\i= .int .i64 k/\c= .int .u64 cy/\0<=cy/\cy<=1/\Hid (s.length=k)/\Limbs s/\Hid (val s+(4294967296:Int)^k*cy=val (l.take k)+val (m.take k))/\Row wr w.heap.size 305 .u32 (s++List.replicate (l.length+1-k) 0)/\Ext w wr) (fun _ _ i _=>m.length-(intOf i).toNat)
 case atStart=>exact⟨0,[],0,by omega,rfl,rfl,by omega,by omega,Zh rfl,Limbs.nil,by simp[Hid,val],by simpa using Row.made w _ _ _,Zi⟩
 case round=>
  obtain⟨k,s,cy,hk,rfl,rfl,hc0,hc1,HS,hs,hv,zqe,hxr⟩:=hrel;by_cases hlt:k<m.length
  ·obtain⟨b,o,x,rfl,hx',hcx,hbx⟩:=(ha.ext hxr).at_ (i:=k) (by omega);obtain⟨b',o',y,rfl,hy',hcy,hby⟩:=(hb.ext hxr).at_ (i:=k) (by omega);obtain⟨hx0,hx1⟩:=hl.get hx';obtain⟨hy0,hy1⟩:=hm.get hy';have HX:=Zh (ZB hx');have HY:=Zh (ZB hy');clear hx' hy';obtain⟨q,hq,hcq⟩:=zqe.cell (i:=k) (by simp[HS.out];omega);have hfq:=zqe.frozen k;clear hq;go_wp2;go_quiet (fail)
   go_wp2;refine⟨⟨k+1,s++[(cy+(x+y))%4294967296],_,by omega,by go_num,rfl,by omega,by omega,Zh (qk HS.out _),hs.snoc (by omega) (by omega),?_,?_,Zi⟩,by simp[intOf]<;>omega⟩
   ·refine Zh ?_;rw[Qc HS.out cy (cy+(x+y)) _ ((4294967296:Int)^k*x+(4294967296:Int)^k*y) hv.out (by rw[<-Int.mul_add];congr 1;omega),HX.out,HY.out];omega
   ·rw[show l.length+1-(k+1)=l.length+1-k-1 by omega];exact(zqe.drewN nq).fill (by omega) HS.out _
  ·obtain rfl:k=m.length:=by omega
   have hv':=hv.out;rw[ZI Zr]at hv';have HV:=Zh hv';clear hv hv' hlt;go_wp2;go_loopw [6,8,51] (fun c _ i wr=>∃(k:Nat) (s:List Int) (cy:Int),m.length+k<=l.length/\i= .int .i64 k/\c= .int .u64 cy/\0<=cy/\cy<=1/\Hid (s.length=m.length+k)/\Limbs s/\Hid (val s+(4294967296:Int)^(m.length+k)*cy=val (l.take (m.length+k))+val m)/\Row wr w.heap.size 305 .u32 (s++List.replicate (l.length+1-(m.length+k)) 0)/\Ext w wr) (fun _ _ i _=>l.length-m.length-(intOf i).toNat)
   case atStart=>exact⟨0,s,cy,by omega,rfl,rfl,hc0,hc1,HS,hs,HV,zqe,hxr⟩
   case round=>
    clear HV HS zqe hs hxr hc0 hc1;obtain⟨k,s,cy,hk,rfl,rfl,hc0,hc1,HS,hs,hv,zqe,hxr⟩:=hrel;by_cases hlt:m.length+k<l.length
    ·obtain⟨b,o,x,rfl,hx',hcx,hbx⟩:=(ha.ext hxr).at_ (i:=m.length+k) (by omega);obtain⟨hx0,hx1⟩:=hl.get hx';have HX:=Zh (ZB hx');clear hx';obtain⟨q,hq,hcq⟩:=zqe.cell (i:=m.length+k) (by simp[HS.out];omega);have hfq:=zqe.frozen (m.length+k);clear hq;go_wp2;refine⟨⟨k+1,s++[(cy+x)%4294967296],_,by omega,by go_num,rfl,by omega,by omega,Zh (qk HS.out _),hs.snoc (by omega) (by omega),?_,?_,Zi⟩,by simp[intOf]<;>omega⟩
     ·refine Zh ?_;rw[show m.length+(k+1)=m.length+k+1 by omega,Qc HS.out cy (cy+x) _ ((4294967296:Int)^(m.length+k)*x) hv.out (by congr 1;omega),HX.out];omega
     ·rw[show l.length+1-(m.length+(k+1))=l.length+1-(m.length+k)-1 by omega];exact zqe.fill (by omega) HS.out _
    ·have hk':m.length+k=l.length:=by omega
     rw[hk']at hv zqe HS;rw[show l.length+1-l.length=1 by omega]at zqe;have zqg:=hv.out;rw[ZI Zr]at zqg;have HF:=Zh zqg;clear zqg hv hk';obtain⟨q,hq,hcq⟩:=zqe.cell (i:=l.length) (by simp[HS.out]);have hfq:=zqe.frozen l.length;clear hq;have zqu:=zqe.fill (by omega) HS.out cy;simp only[Nat.sub_self,List.replicate_zero,List.append_nil]at zqu;have zqf:(s++[cy]).length=l.length+1:=qk HS.out _
     have hT:=JM (c:=l.length+1) zqu.ints (by omega) (by omega);rw[zqf]at hT;have HT:=Zh hT;have HL:=Zh zqf;clear hT zqf;go_wp2_with (go_at_call 315;refine(HT.out).mono ?_;rintro e w' ⟨j,hj,ht,htv,rfl,rfl⟩)
     go_ret;have hLs:Limbs (s++[cy]):=hs.snoc hc0 (by omega);refine⟨_,l.length+1,(s++[cy]).take j,?_,zqu.ints.take j,hLs.take j,ht,?_,?_,?_,Step.of _ _⟩
     ·rw[Jg hj];rfl
     ·rw[htv,Je,HS.out,HF.out]
     ·simp;have:=HL.out;simp at this;omega
     ·omega
theorem zen(ha:Ints w0 A 305 .u32 l)(hb:Ints w1 B 305 .u32 m)(hl:Limbs l)(hm:Limbs m)
  (h1:l.length<=1099511627776) (h2:m.length<=1099511627776) [hx:Ext w0 w] [hy:Ext w1 w]:
  Cq 380 #[.slice A l.length c,.slice B m.length d] w (Qa w (val l+val m)):=by
 by_cases hn:m.length<=l.length
 ·exact ziJ (ha.ext hx) (hb.ext hy) hl hm h1 hn
 ·rw[Int.add_comm];exact ziK (hb.ext hy) (ha.ext hx) hm hl h2 (by omega)
theorem ziL(x cy y:Int)(hx0:0<=x)(hx1:x<4294967296)(hc0:0<=cy)(hc1:cy<=1)(hy0:0<=y)(hy1:y<4294967296):
  IntKind.u64.wrap (IntKind.u64.wrap (x-cy)-y)%4294967296=(x-cy-y)%4294967296/\IntKind.u64.wrap (IntKind.u64.wrap (x-cy)-y) / 9223372036854775808=-((x-cy-y) / 4294967296):=by
 simp only[IntKind.wrap_u64];omega
theorem ziM(x cy:Int)(hx0:0<=x)(hx1:x<4294967296)(hc0:0<=cy)(hc1:cy<=1):
  IntKind.u64.wrap (x-cy)%4294967296=(x-cy)%4294967296/\IntKind.u64.wrap (x-cy) / 9223372036854775808=-((x-cy) / 4294967296):=by
 simp only[IntKind.wrap_u64];omega
theorem zeo{W:World}(zqe:Row W g 305 .u32 l)(hl:Limbs l)(hj:j<=l.length)(ht:Tight (l.take j))(hv:val (l.take j)=val l)(hz:val l=z)(hc:l.length<=c)(hc2:c<=9223372036854775807)[hx:Ext w W]:
  Qa w z (.returned (.slice (some ⟨g,0,none⟩) j c)) W:=
 ⟨_,c,l.take j,by rw[Jg hj],zqe.ints.take j,hl.take j,ht,hv.trans hz,by rw[Jg hj];omega,hc2,Step.of _ _⟩
theorem zcd(ha':Ints w0 A 305 .u32 l)(hb':Ints w1 B 305 .u32 m)(hl:Limbs l)(hm:Limbs m)
  (h1:l.length<=1099511627776) (hn:m.length<=l.length) (hle:val m<=val l) [hx:Ext w0 w] [hy:Ext w1 w]:
  Cq 381 #[.slice A l.length c,.slice B m.length d] w (Qa w (val l-val m)):=by
 have ha:=ha'.ext hx;have hb:=hb'.ext hy;have hmk:=Qt (P:=Tryz.prog) Tryz.underlying176 Tryz.infoU32 (by omega) (l.length:Int) (by omega) (by omega);go_enter Tryz.func381,Tryz.ntmps381;go_wp2;go_loopw [6,7,8,14] (fun c _ _ i wr=>∃(k:Nat) (s:List Int) (cy:Int),k<=l.length/\i= .int .i64 k/\c= .int .u64 cy/\0<=cy/\cy<=1/\Hid (s.length=k)/\Limbs s/\Hid (val s+(4294967296:Int)^k*(-cy)=val (l.take k)-val (m.take k))/\Row wr w.heap.size 305 .u32 (s++List.replicate (l.length-k) 0)/\Ext w wr) (fun _ _ _ i _=>l.length-(intOf i).toNat)
 case atStart=>exact⟨0,[],0,by omega,rfl,rfl,by omega,by omega,Zh rfl,Limbs.nil,by simp[Hid,val],by simpa using Row.made w _ _ _,Zi⟩
 case round=>
  obtain⟨k,s,cy,hk,rfl,rfl,hc0,hc1,HS,hs,hv,zqe,hxr⟩:=hrel;by_cases hlt:k<l.length
  ·obtain⟨b,o,x,rfl,hx',hcx,hbx⟩:=(ha.ext hxr).at_ (i:=k) (by omega);obtain⟨hx0,hx1⟩:=hl.get hx';have HX:=Zh (ZB hx');clear hx';obtain⟨q,hq,hcq⟩:=zqe.cell (i:=k) (by simp[HS.out];omega);have hfq:=zqe.frozen k;clear hq;by_cases hkm:k<m.length
   ·obtain⟨b',o',y,rfl,hy',hcy,hby⟩:=(hb.ext hxr).at_ (i:=k) (by omega);obtain⟨hy0,hy1⟩:=hm.get hy';have HY:=Zh (ZB hy');clear hy';go_wp2;obtain⟨e1,e2⟩:=ziL x cy y hx0 hx1 hc0 hc1 hy0 hy1;rw[e1,e2];refine⟨⟨k+1,s++[(x-cy-y)%4294967296],_,by omega,by go_num,rfl,by omega,by omega,Zh (qk HS.out _),hs.snoc (by omega) (by omega),?_,?_,Zi⟩,by simp[intOf]<;>omega⟩
    ·refine Zh ?_;rw[Int.neg_neg,Qc HS.out (-cy) (x-cy-y) _ ((4294967296:Int)^k*x-(4294967296:Int)^k*y) hv.out (by rw[<-Int.mul_sub];congr 1;omega),HX.out,HY.out];omega
    ·rw[show l.length-(k+1)=l.length-k-1 by omega];exact zqe.fill (by omega) HS.out _
   ·have HY:=Zh (show val (m.take (k+1))=val (m.take k) by rw[ZI (by omega),ZI (by omega)]);go_wp2;obtain⟨e1,e2⟩:=ziM x cy hx0 hx1 hc0 hc1;rw[e1,e2];refine⟨⟨k+1,s++[(x-cy)%4294967296],_,by omega,by go_num,rfl,by omega,by omega,Zh (qk HS.out _),hs.snoc (by omega) (by omega),?_,?_,Zi⟩,by simp[intOf]<;>omega⟩
    ·refine Zh ?_;rw[Int.neg_neg,Qc HS.out (-cy) (x-cy) _ ((4294967296:Int)^k*x) hv.out (by congr 1;omega),HX.out,HY.out];omega
    ·rw[show l.length-(k+1)=l.length-k-1 by omega];exact zqe.fill (by omega) HS.out _
  ·obtain rfl:k=l.length:=by omega
   simp only[Nat.sub_self,List.replicate_zero,List.append_nil]at zqe;have zqg:=hv.out;rw[ZI Zr,ZI hn]at zqg;have hs1:=ZV hs;rw[HS.out]at hs1;have hp:=QI l.length;have hcy:cy=0:=by
    rcases(by omega:cy=0∨cy=1) with h|h
    ·exact h
    ·subst h;omega
   subst hcy;have HF:=Zh (show val s=val l-val m by simpa using zqg);clear zqg hv hs1 hp hc0 hc1;have hT:=JM (c:=l.length) zqe.ints (by rw[HS.out];omega) (by omega);rw[HS.out]at hT;have HT:=Zh hT;clear hT;go_wp2_with (go_at_call 315;refine(HT.out).mono ?_;rintro e w' ⟨j,hj,ht,htv,rfl,rfl⟩)
   go_ret;exact zeo zqe hs hj ht htv HF.out (by rw[HS.out];omega) (by omega)
theorem JN{q:Int}(h:l[i]? =some q)(t:Int):val (l.set i t)=val l+(4294967296:Int)^i*(t-q):=by
 induction l generalizing i with
 |nil=>simp at h
 |cons a l ih=>
  cases i with
  |zero=>simp at h;subst h;simp[val];omega
  |succ i=>
   simp only[List.getElem?_cons_succ]at h;simp only[List.set_cons_succ,val,ih h,Int.pow_succ];rw[Int.mul_add,Int.mul_comm ((4294967296:Int)^i) 4294967296,Int.mul_assoc,Int.add_assoc]
theorem Limbs.set(h:Limbs l)(i:Nat)(h0:0<=t)(h1:t<4294967296):Limbs (l.set i t):=fun x hx=>by
 rcases List.mem_or_eq_of_mem_set hx with hx|rfl
 ·exact h x hx
 ·exact⟨h0,h1⟩
theorem zba(n:Nat):val (List.replicate n 0)=0:=by
 induction n with
 |zero=>rfl
 |succ n ih=>simp[List.replicate_succ,val,ih]
def ZeroFrom(p:List Int)(k:Nat):Prop:=∀j x,k<=j->p[j]? =some x->x=0
theorem ZeroFrom.set(h:ZeroFrom p k)(hi:i<k)(t:Int):ZeroFrom (p.set i t) k:=fun j x hj hx=>by
 rw[List.getElem?_set]at hx;rw[if_neg (by omega)]at hx;exact h j x hj hx
theorem ZeroFrom.mono{k':Nat}(h:ZeroFrom p k)(hk:k<=k'):ZeroFrom p k':=fun j x hj hx=>h j x (by omega) hx
theorem zce(x y:Int)(hx0:0<=x)(hx1:x<4294967296)(hy0:0<=y)(hy1:y<4294967296):0<=x*y/\x*y<=18446744065119617025:=by
 constructor
 ·exact Int.mul_nonneg hx0 hy0
 ·have h1:x*y<=4294967295*y:=Int.mul_le_mul_of_nonneg_right (by omega) hy0;omega
theorem zep(ha:Ints w A 305 .u32 l)(hb:Ints w B 305 .u32 m)(hl:Limbs l)(hm:Limbs m)
  (h1:l.length<=1099511627776) (h2:m.length<=1099511627776) (zso:1<l.length∨1<m.length):
  Cq 378 #[.slice A l.length c,.slice B m.length d] w (Qa w (val l*val m)):=by
 have hmk:=Qt (P:=Tryz.prog) Tryz.underlying176 Tryz.infoU32 (by omega) ((l.length:Int)+m.length) (by omega) (by omega);go_enter Tryz.func378,Tryz.ntmps378;by_cases hl1:l.length<=1
 all_goals
  first
   |(have hmb:decide ((m.length:Int)<=1)=false:=by simp;omega)
   |skip
  go_wp2;go_loopw [6,7,8,9,10,11,34] (fun _ _ _ _ _ _ i wr=>∃(k:Nat) (p:List Int),k<=l.length/\i= .int .i64 k/\Hid (p.length=l.length+m.length)/\Limbs p/\ZeroFrom p (k+m.length)/\Hid (val p=val (l.take k)*val m)/\Row wr w.heap.size 305 .u32 p/\Ext w wr) (fun _ _ _ _ _ _ i _=>l.length-(intOf i).toNat)
  case atStart=>
   refine⟨0,List.replicate (l.length+m.length) 0,by omega,rfl,Zh (by simp),?_,?_,?_,Row.made w _ _ _,Zi⟩
   ·intro x hx;rw[List.eq_of_mem_replicate hx];omega
   ·intro j x _ hx;exact List.eq_of_mem_replicate (Zm hx)
   ·refine Zh ?_;rw[zba];simp[val]
  case round=>
   obtain⟨k,p,hk,rfl,HP,hp,hz,hv,zqe,hxr⟩:=hrel;by_cases hlt:k<l.length
   ·obtain⟨b,o,x,rfl,hx',hcx,hbx⟩:=(ha.ext hxr).at_ (i:=k) (by omega);obtain⟨hx0,hx1⟩:=hl.get hx';have HX:=Zh (ZB hx');clear hx';by_cases hxz:x=0
    ·subst hxz;go_wp2;refine⟨⟨k+1,p,by omega,by go_num,HP,hp,hz.mono (by omega),?_,zqe,hxr⟩,by simp[intOf]<;>omega⟩;refine Zh ?_;rw[HX.out,hv.out];simp
    ·have hxb:(x==0)=false:=by simp[hxz]
     clear hxz;go_wp2;go_loopw [9,10,11,51] (fun cy _ _ j wr'=>∃(q:Nat) (p':List Int) (cv:Int),q<=m.length/\j= .int .i64 q/\cy= .int .u64 cv/\0<=cv/\cv<4294967296/\Hid (p'.length=l.length+m.length)/\Limbs p'/\ZeroFrom p' (k+m.length)/\Hid (val p'+(4294967296:Int)^(k+q)*cv=val p+(4294967296:Int)^k*(x*val (m.take q)))/\Row wr' w.heap.size 305 .u32 p'/\Ext w wr') (fun _ _ _ j _=>m.length-(intOf j).toNat)
     case atStart=>exact⟨0,p,0,by omega,rfl,rfl,by omega,by omega,HP,hp,hz,Zh (by simp[val]),zqe,hxr⟩
     case round=>
      obtain⟨q,p',cv,hq,rfl,rfl,hc0,hc1,HP',hp',hz',hv',zqu,zrp⟩:=hrel;by_cases zqz:q<m.length
      ·obtain⟨b',o',y,rfl,hy',hcy,hby⟩:=(hb.ext zrp).at_ (i:=q) (by omega);obtain⟨hy0,hy1⟩:=hm.get hy';have HY:=Zh (ZB hy');clear hy';obtain⟨zt0,zt1⟩:=zce x y hx0 hx1 hy0 hy1;obtain⟨r,hr,hcr⟩:=zqu.cell (i:=k+q) (by rw[HP'.out];omega);have hfr:=zqu.frozen (k+q);obtain⟨hr0,hr1⟩:=hp'.get hr;have HR:=Zh hr;clear hr;go_wp2;refine⟨⟨q+1,p'.set (k+q) ((cv+(x*y+r))%4294967296),_,by omega,by go_num,rfl,by omega,by omega,Zh (by rw[List.length_set];exact HP'.out),hp'.set _ (by omega) (by omega),hz'.set (by omega) _,?_,zqu.set _ _,Zi⟩,by simp[intOf]<;>omega⟩
       refine Zh ?_;rw[JN HR.out,HY.out];have e1:=zcc ((4294967296:Int)^(k+q)) (cv+(x*y+r));have e2:=hv'.out;rw[show k+(q+1)=k+q+1 by omega,Int.pow_succ];have e3:(4294967296:Int)^k*(x*(val (m.take q)+(4294967296:Int)^q*y))=(4294967296:Int)^k*(x*val (m.take q))+(4294967296:Int)^(k+q)*(x*y):=by
        rw[Int.pow_add,Int.mul_add,Int.mul_add,Int.mul_assoc,Int.mul_left_comm x]
       rw[e3];simp only[Int.mul_sub,Int.mul_add]at e1|-
       omega
      ·obtain rfl:q=m.length:=by omega
       obtain⟨r,hr,hcr⟩:=zqu.cell (i:=k+m.length) (by rw[HP'.out];omega);have hfr:=zqu.frozen (k+m.length);obtain rfl:r=0:=hz' _ _ Zr hr;have HR:=Zh hr;clear hr;go_wp2;refine⟨⟨k+1,p'.set (k+m.length) cv,by omega,by go_num,Zh (by rw[List.length_set];exact HP'.out),hp'.set _ hc0 hc1,(hz'.mono (by omega)).set (by omega) _,?_,zqu.set _ _,Zi⟩,by simp[intOf]<;>omega⟩;refine Zh ?_;have e2:=hv'.out;rw[ZI Zr]at e2
       rw[JN HR.out,HX.out,Int.sub_zero,e2,hv.out,Int.add_mul,Int.mul_assoc]
   ·obtain rfl:k=l.length:=by omega
    have zqg:=hv.out;rw[ZI Zr]at zqg;have HF:=Zh zqg;clear zqg hv;have hT:=JM (c:=l.length+m.length) zqe.ints (by rw[HP.out];omega) (by omega);rw[HP.out]at hT;have HT:=Zh hT;clear hT;go_wp2_with (go_at_call 315;refine(HT.out).mono ?_;rintro e w' ⟨j,hj,ht,htv,rfl,rfl⟩)
    go_ret;exact zeo zqe hp hj ht htv HF.out (by rw[HP.out];omega) (by omega)
theorem ziN(hl:Limbs l)(hm:Limbs m)(h1:l.length<=1)(h2:m.length<=1):0<=val l/\val l<4294967296/\0<=val m/\val m<4294967296/\0<=val l*val m/\val l*val m<=18446744065119617025:=by
 have a1:=qP hl;have a2:=ZV hl;have a3:=qP hm;have a4:=ZV hm;have a5:=JL h1;have a6:=JL h2;simp only[Int.pow_one]at a5 a6;have:=zce (val l) (val m) a1 (by omega) a3 (by omega);omega
theorem ziO(ha':Ints w0 A 305 .u32 l)(hb':Ints w1 B 305 .u32 m)(hl:Limbs l)(hm:Limbs m)
  (h1:l.length<=1099511627776) (h2:m.length<=1099511627776) [hx:Ext w0 w] [hy:Ext w1 w]:
  Cq 378 #[.slice A l.length c,.slice B m.length d] w (Qa w (val l*val m)):=by
 have ha:=ha'.ext hx;have hb:=hb'.ext hy;by_cases hl1:l.length<=1
 ·by_cases hm1:m.length<=1
  ·obtain⟨a1,a2,a3,a4,a5,a6⟩:=ziN hl hm hl1 hm1;have hw1:=Zh (za7 (c:=c) ha hl (by omega));have hw2:=Zh (za7 (c:=d) hb hm (by omega));have hmb:decide ((m.length:Int)<=1)=true:=by simp;omega
   go_enter Tryz.func378,Tryz.ntmps378;go_wp2_with fail
   refine hw1.out.mono ?_;rintro e w' ⟨rfl,rfl⟩;go_wp2_with fail
   refine hw2.out.mono ?_;rintro e w' ⟨rfl,rfl⟩;go_wp2_with fail
   refine(zar _ a5 (by omega) _).mono ?_;rintro e w' ⟨B1,d1,l1,rfl,h⟩;go_wp2;go_ret;exact⟨B1,d1,l1,rfl,h⟩
  ·exact zep ha hb hl hm h1 h2 (by omega)
 ·exact zep ha hb hl hm h1 h2 (by omega)
end Go.Proofs.YtpijjipngkdhdaaGreat

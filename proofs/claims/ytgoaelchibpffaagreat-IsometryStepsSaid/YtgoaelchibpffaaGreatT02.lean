import Derived.Test.YtgoaelchibpffaaGreatT01
import Derived.Maps.AppendAt
set_option maxHeartbeats 8000000
set_option linter.unusedVariables false
set_option linter.unusedSimpArgs false
namespace Go.Proofs.YtgoaelchibpffaaGreat
theorem ai{p:Prop}(h:p:=by kernel_rfl):p:=h
open Go.RowKit
variable {b t x z:Int} {l m p s:List Int} {c d g i j k n:Nat} {A B:Option Addr} {e te:TypeId} {w w0 w1:World}
theorem Tryz.infoU32:(Tryz.prog.info? 212).map (fun i=>(i.zero,i.size,i.bytes))=some (some (.int .u32 0),1,4):=ai
theorem zfb(hx:l[k]? =some x)(h0:x≠0):Tight (l.take (k+1)):=by
 have hi:k<l.length:=(Zg.1 hx).1;have hx':l[k]=x:=(Zg.1 hx).2;rw[List.take_succ_eq_append_getElem hi,hx'];simp[Tight,h0]
theorem zfc(hx:l[k]? =some 0):val (l.take (k+1))=val (l.take k):=by
 rw[ZK hx];simp
def zkg(w:World)(A:Option Addr)(c:Nat)(l:List Int)(e:Ending)(w':World):Prop:=∃m:Nat,m<=l.length/\Tight (l.take m)/\val (l.take m)=val l/\e= .returned (.slice A m c)/\w=w'
theorem zac(h:Ints w A 212 .u32 l)(hc:l.length<=c)(hc2:c<=9223372036854775807):
  Cq 188 #[.slice A l.length c] w (zkg w A c l):=by
 go_enter Tryz.func188,Tryz.ntmps188;go_wp2;go_loop [0] (fun v=>∃m:Nat,m<=l.length/\Hid (val (l.take m)=val l)/\v= .slice A m c) (fun v=>match v with | .slice _ m _=>m|_=>0)
 case atStart=>exact⟨l.length,Zr,by rw[List.take_length];exact Zh rfl,rfl⟩
 case round=>
  obtain⟨m,hm,hv,rfl⟩:=hrel;by_cases h0:0<m
  ·obtain⟨k,rfl⟩:∃k,m=k+1:=⟨m-1,aa⟩;obtain⟨b,o,x,rfl,hx',zsU,hb⟩:=h.at_ (i:=k) aa;have hx:=Zh hx';clear hx';by_cases hx0:x=0
   ·subst hx0;go_wp2;exact⟨⟨k,aa,by rw[Hid,<-zfc hx.out];exact hv,rfl⟩,af⟩
   ·have hx1:(x==0)=false:=by simp[hx0]
    have ht:=Zh (zfb hx.out hx0);clear hx0;go_wp2;go_ret;exact⟨k+1,hm,ht.out,hv.out,rfl,rfl⟩
  ·obtain rfl:m=0:=aa
   go_wp2;go_ret;exact⟨0,aa,by simp[Tight],hv.out,rfl,rfl⟩
theorem JL(neg:Bool)(h:Ints w0 A 212 .u32 l)(hl:Limbs l)(ht:Tight l)(hc:l.length<=c)(hc2:c<=9223372036854775807)[hx:Ext w0 w]:
  Cq 245 #[.bool neg,.slice A l.length c] w (zz w (zp neg (val l))):=by
 have h1:=h.ext hx;by_cases h0:l=[]
 ·subst h0;go_enter Tryz.func245,Tryz.ntmps245;go_wp2;refine bodyPost_ret (v:= .agg #[.bool false,.slice none 0 0]) (by simp[results,Tryz.results245,go_sem]) rfl ⟨_,_,_,_,rfl,?_,Step.of _ _⟩
  cases neg<;>simpa[val,zp] using IntV.zero _ none 0 aa
 ·have zss:0<l.length:=List.length_pos_iff.2 h0;have hz:((l.length:Int)==0)=false:=by simp[h0]
  have hv:0<val l:=by
   have:=QC hl;have:val l≠0:=fun hh=>h0 ((zaW hl ht).1 hh)
   omega
  have zvh:∀w',Ext w w'->IntV w' neg A l.length c (zp neg (val l)):=fun w' hxw=>by
   refine⟨l,rfl,hl,ht,?_,?_,h1.ext hxw,hc,hc2⟩
   ·cases neg<;>simp[zp]<;>omega
   ·cases neg<;>simp[zp]<;>omega
  have HP:=Zh zvh;clear h0 h1 hv zvh;go_enter Tryz.func245,Tryz.ntmps245;go_wp2;exact bodyPost_ret (v:= .agg #[.bool neg,.slice A l.length c]) (by simp[results,Tryz.results245,go_sem]) rfl ⟨_,_,_,_,rfl,HP.out _ Zi,Step.of _ _⟩
theorem zfd(a x:Int)(h1:0<=a)(h2:a<4294967296)(h3:0<=x)(h4:x<4294967296):bits .or .u64 a (x*4294967296)=a+x*4294967296:=by
 rw[u64_or a _ h1 aa aa aa,nat_join32' _ _ aa aa];omega
theorem zfe(x:Int)(h3:0<=x)(h4:x<18446744073709551616):bits .or .u64 0 x=x:=by
 rw[u64_or 0 _ aa aa aa aa];simp;omega
theorem zff(h:l[0]? =some x):val (l.take 1)=x:=by
 have:=ZK h;simpa[val] using this
theorem zbM(h:Ints w A 212 .u32 l)(hl:Limbs l)(h2:l.length<=2):
  Cq 189 #[.slice A l.length c] w (Zq w (.int .u64 (val l))):=by
 go_enter Tryz.func189,Tryz.ntmps189;go_wp2;go_loop [3,8] (fun v i=>∃k:Nat,k<=l.length/\i= .int .i64 k/\v= .int .u64 (val (l.take k))) (fun _ i=>l.length-(intOf i).toNat)
 case atStart=>exact⟨0,aa,rfl,rfl⟩
 case round=>
  obtain⟨k,hk,rfl,rfl⟩:=hrel;by_cases hlt:k<l.length
  ·obtain rfl|rfl:k=0∨k=1:=aa
   ·obtain⟨b,o,x,rfl,hx',zsU,hb⟩:=h.at0 hlt;obtain⟨hx0,hx1⟩:=hl.get hx';have hs:=Zh (zff hx');clear hx';simp only[List.take_zero,val];go_wp2;refine⟨⟨1,aa,rfl,?_⟩,by simp[intOf];omega⟩;rw[zfe _ hx0 aa,hs.out]
   ·obtain⟨b,o,x,rfl,hx',zsU,hb⟩:=h.at_ hlt;obtain⟨hx0,hx1⟩:=hl.get hx';have hs:=Zh (ZK hx');clear hx';have hy0:=QC (hl.take 1);have hy1:=qH (hl.take 1);have hy2:(l.take 1).length=1:=by simp;omega
    rw[hy2]at hy1;clear hy2;go_wp2;refine⟨⟨2,aa,rfl,?_⟩,by simp[intOf];omega⟩;rw[zfd _ _ hy0 aa hx0 hx1,hs.out];congr 1;omega
  ·obtain rfl:k=l.length:=aa
   go_wp2;go_ret;exact⟨af,rfl⟩
theorem zfg(n:Int):val [n%4294967296,n / 4294967296]=n:=by
 simp only[val];omega
theorem zaX(n:Int)(h0:0<=n)(h1:n<18446744073709551616)(w:World):
  Cq 246 #[.int .u64 n] w (Qk w n):=by
 have hl:Limbs [n%4294967296,n / 4294967296]:=Limbs.cons aa (Limbs.cons aa Limbs.nil);have hi:=Arr.new w 212 #[.int .u32 (n%4294967296),.int .u32 (n / 4294967296)];have hi':Ints (w.alloc (.cells #[.int .u32 (n%4294967296),.int .u32 (n / 4294967296)] 212)) (some ⟨w.heap.size,0,none⟩) 212 .u32 [n%4294967296,n / 4294967296]:=hi;have hc:=zac (c:=2) hi' af aa;have HC:=Zh hc
 clear hc hi;go_enter Tryz.func246,Tryz.ntmps246;go_wp2_with (go_at_call 188;refine(HC.out).mono ?_;rintro e w' ⟨m,hm,ht,hv,rfl,rfl⟩)
 go_ret;refine⟨_,2,[n%4294967296,n / 4294967296].take m,?_,hi'.take m,hl.take m,ht,by rw[hv,zfg],?_,aa,Step.of _ _⟩
 ·have:m<=2:=hm;simp[Nat.min_eq_left this]
 ·simp;omega
theorem zkh(n:Int)(h0:n<0)(h1:-9223372036854775808<=n)(w:World):
  Cq 185 #[.int .i64 n] w (zz w n):=by
 go_enter Tryz.func185,Tryz.ntmps185;go_wp2_with fail
 rw[show IntKind.u64.wrap (-IntKind.u64.wrap n)=-n by simp only[IntKind.wrap_u64];omega];refine(zaX (-n) aa aa _).mono ?_;rintro e w1 ⟨B1,d1,l1,rfl,hi1,hl1,ht1,hv1,hd1,hd2,hs1⟩;have HV:=Zh hv1;clear hv1;go_wp2_with fail
 refine(JL true hi1 hl1 ht1 hd1 hd2).mono ?_;rintro e w2 ⟨g,B,k,d,rfl,hz,hs2⟩;obtain⟨q0,q1,q2,q3,q4,q5⟩:=qG w w2 (.bool false) (.slice none 0 0) 102;have Q0:=Zh q0;clear q0;go_wp2;refine bodyPost_ret (v:= .agg #[.bool g,.slice B k d]) (by simp[results,Tryz.results185,go_sem,q1,q2]) rfl ⟨_,_,_,_,rfl,?_,Step.of _ _⟩;have e1:zp true (val l1)=n:=by rw[HV.out];simp[zp]
 rw[e1]at hz;exact hz.boxed ac Q0.out _ _
theorem zki(n:Int)(h0:0<=n)(h1:n<=9223372036854775807)(w:World):
  Cq 185 #[.int .i64 n] w (zz w n):=by
 go_enter Tryz.func185,Tryz.ntmps185;go_wp2_with fail
 try rw[show IntKind.u64.wrap n=n by simp only[IntKind.wrap_u64];omega]
 refine(zaX n aa aa _).mono ?_;rintro e w1 ⟨B1,d1,l1,rfl,hi1,hl1,ht1,hv1,hd1,hd2,hs1⟩;have HV:=Zh hv1;clear hv1;go_wp2_with fail
 refine(JL false hi1 hl1 ht1 hd1 hd2).mono ?_;rintro e w2 ⟨g,B,k,d,rfl,hz,hs2⟩;obtain⟨q0,q1,q2,q3,q4,q5⟩:=qG w w2 (.bool false) (.slice none 0 0) 102;have Q0:=Zh q0;clear q0;go_wp2;refine bodyPost_ret (v:= .agg #[.bool g,.slice B k d]) (by simp[results,Tryz.results185,go_sem,q1,q2]) rfl ⟨_,_,_,_,rfl,?_,Step.of _ _⟩;have e1:zp false (val l1)=n:=by rw[HV.out];simp[zp]
 rw[e1]at hz;exact hz.boxed ac Q0.out _ _
theorem zbN(n:Int)(h0:-9223372036854775808<=n)(h1:n<=9223372036854775807)(w:World):
  Cq 185 #[.int .i64 n] w (zz w n):=by
 by_cases h:n<0
 ·exact zkh n h h0 w
 ·exact zki n aa h1 w
def zo(a b:Int):Int:=if a<b then-1 else if a=b then 0 else 1
theorem qr{a:Int}(h:a<b):zo a b=-1:=by simp[zo,h]
theorem Ql{a:Int}(h:b<a):zo a b=1:=by simp[zo];omega
theorem Qm{a:Int}(h:a=b):zo a b=0:=by simp[zo,h]
theorem Jk(hl:Limbs l)(hm:Limbs m)(ht:Tight m)(h:l.length<m.length):val l<val m:=by
 have h1:=qH hl;have h2:=zc8 hm ht aa;have h3:=zaV (m:=l.length) (n:=m.length-1) aa;omega
theorem zbO(k:Nat):val l=val (l.take k)+(4294967296:Int)^(l.take k).length*val (l.drop k):=by
 rw[<-zfa,List.take_append_drop]
theorem zbP(hl:Limbs l)(hm:Limbs m){y:Int}(hx:l[k]? =some x)(hy:m[k]? =some y)(hd:l.drop (k+1)=m.drop (k+1))(h:x<y):val l<val m:=by
 have hk:k<l.length:=(Zg.1 hx).1;have hk':k<m.length:=(Zg.1 hy).1;rw[zbO (l:=l) (k+1),zbO (l:=m) (k+1),hd,ZK hx,ZK hy];rw[List.length_take,List.length_take,Nat.min_eq_left aa,Nat.min_eq_left aa];have h1:=qH (hl.take k);rw[List.length_take,Nat.min_eq_left aa]at h1;have h2:=QC (hm.take k);have h3:(4294967296:Int)^k*(x+1)<=(4294967296:Int)^k*y:=Int.mul_le_mul_of_nonneg_left aa (by have:=jf k;omega)
 rw[Int.mul_add]at h3;omega
theorem zkj(ha:Ints w A 212 .u32 l)(hb:Ints w B 212 .u32 m)(hl:Limbs l)(hm:Limbs m)
  (h1:l.length<=9223372036854775807) (hn:m.length=l.length):
  Cq 304 #[.slice A l.length c,.slice B l.length d] w (zA w (.int .i64 (zo (val l) (val m)))):=by
 have HN:=Zh hn;clear hn;go_enter Tryz.func304,Tryz.ntmps304;go_wp2;go_loopw [5] (fun i wr=>∃k:Nat,k<=l.length/\i= .int .i64 ((k:Int)-1)/\Hid (l.drop k=m.drop k)/\Ext w wr) (fun i _=>(intOf i+1).toNat)
 case atStart=>exact⟨l.length,aa,rfl,by simp[Hid,HN.out],Zi⟩
 case round=>
  obtain⟨k,hk,rfl,hd,hxr⟩:=hrel
  cases k with
  |zero=>
   go_wp2;go_ret;refine⟨?_,hxr.toStep⟩;have:=hd.out;simp only[List.drop_zero]at this;rw[Qm (by rw[this])];rfl
  |succ j=>
   obtain⟨b,o,x,rfl,hx',hcx,hbx⟩:=(ha.ext hxr).at_ (i:=j) aa;obtain⟨b',o',y,rfl,hy',hcy,hby⟩:=(hb.ext hxr).at_ (i:=j) (by have:=HN.out;omega);obtain⟨hx0,hx1⟩:=hl.get hx';obtain⟨hy0,hy1⟩:=hm.get hy';have HX:=Zh hx';have HY:=Zh hy';clear hx' hy';rw[(aa:((j+1:Nat):Int)-1=(j:Int))];by_cases hlt:x<y
   ·have zuA:decide (x<y)=true:=by simpa using hlt
    have e1:=Zh (qr (zbP hl hm HX.out HY.out hd.out hlt));go_wp2;go_quiet (fail)
    go_wp2;go_ret;exact⟨by rw[e1.out];rfl,(Zi:Ext w (wr.drewN nq)).toStep⟩
   ·by_cases hgt:y<x
    ·have zuA:decide (x<y)=false:=by simpa using hlt
     have zxM:decide (y<x)=true:=by simpa using hgt
     have e1:=Zh (Ql (zbP hm hl HY.out HX.out hd.out.symm hgt));clear hlt;go_wp2;go_quiet (fail)
     go_wp2;go_quiet (fail)
     go_wp2;go_ret;exact⟨by rw[e1.out];rfl,(Zi:Ext w _).toStep⟩
    ·obtain rfl:x=y:=aa
     have hd':Hid (l.drop j=m.drop j):=by
      have h1:j<l.length:=(Zg.1 HX.out).1;have h2:j<m.length:=(Zg.1 HY.out).1;unfold Hid;rw[List.drop_eq_getElem_cons h1,List.drop_eq_getElem_cons h2,hd.out,(Zg.1 HX.out).2,(Zg.1 HY.out).2]
     clear hlt hgt;go_wp2;go_quiet (fail)
     go_wp2;go_quiet (fail)
     go_wp2;exact⟨⟨j,aa,rfl,hd',Zi⟩,by simp[intOf]<;>omega⟩
theorem zda(ha:Ints w0 A 212 .u32 l)(hb:Ints w1 B 212 .u32 m)(hl:Limbs l)(hm:Limbs m)(tl:Tight l)(tm:Tight m)
  (h1:l.length<=9223372036854775807) (h2:m.length<=9223372036854775807) [hx:Ext w0 w] [hy:Ext w1 w]:
  Cq 304 #[.slice A l.length c,.slice B m.length d] w (zA w (.int .i64 (zo (val l) (val m)))):=by
 by_cases hlt:l.length<m.length
 ·have e1:=Zh (qr (Jk hl hm tm hlt));go_enter Tryz.func304,Tryz.ntmps304;go_wp2;go_ret;exact⟨by rw[e1.out];rfl,Step.of _ _⟩
 by_cases hgt:m.length<l.length
 ·have e1:=Zh (Ql (Jk hm hl tl hgt));go_enter Tryz.func304,Tryz.ntmps304;go_wp2;go_ret;exact⟨by rw[e1.out];rfl,Step.of _ _⟩
 have hn:m.length=l.length:=aa
 rw[hn];exact zkj (ha.ext hx) (hb.ext hy) hl hm h1 hn
def Own(w:World)(ze:Nat)(e:TypeId)(size:Nat)(A:Option Addr)(n c:Nat)(xs:List Value):Prop:=w.ownsRow ze e size (.slice A n c) n xs
structure Grow(ze:Nat)(e:TypeId)(w w':World):Prop where
 below:Below ze w w'
 typed:∀k:Nat,k<w.heap.size->(∀(cs:Array Value)(fr:Nat×Nat),w.heap[k]?≠some (Obj.cells cs e fr))->w'.heap[k]? =w.heap[k]?
section
variable {w w' w0:World} {ze:Nat} {e e':TypeId} {size:Nat} {A:Option Addr} {n c:Nat} {xs vs:List Value}
theorem Own.nil(w:World)(ze:Nat)(e:TypeId)(size:Nat):Own w ze e size none 0 0 []:=World.ownsRow_nil w ze e size
theorem Own.len(h:Own w ze e size A n c xs):xs.length=n*size:=h.1
theorem Own.cap(h:Own w ze e size A n c xs):n<=c/\c<=9223372036854775807:=by
 rcases h.2 with ⟨hv,hn⟩|⟨g,cap,cur,hv,_,_,h1,h2,_⟩
 ·injection hv with _ _ hc;subst hc;subst hn;omega
 ·injection hv with _ _ hc;subst hc;simp only[maxLen]at h2;omega
theorem Own.ext(h:Own w ze e size A n c xs)(hx:Ext w w'):Own w' ze e size A n c xs:=by
 refine⟨h.1,?_⟩;rcases h.2 with hv|⟨g,cap,cur,hv,h1,h2,h3⟩
 ·exact .inl hv
 ·exact .inr ⟨g,cap,cur,hv,h1,zg hx h2,h3⟩
theorem Own.arr(h:Own w ze e size A n c xs):Arr w A e xs:=fun h0=>by
 rcases h.2 with ⟨hv,hn⟩|⟨g,cap,cur,hv,h1,h2,_,_,_,h4⟩
 ·have:=h.1;rw[hn]at this;omega
 ·injection hv with hA
  refine⟨g,0,cur,(0,0),hA,h2,fun j u hu=>?_⟩;rw[Nat.zero_add,<-Array.getElem?_toList];rw[<-h4,List.getElem?_take]at hu;split at hu
  ·exact hu
  ·simp at hu
theorem Own.lower(h:Own w ze e size A n c xs){base':Nat}(hb:base'<=ze):Own w base' e size A n c xs:=by
 refine⟨h.1,?_⟩;rcases h.2 with hv|⟨g,cap,cur,hv,h1,h2,h3⟩
 ·exact .inl hv
 ·exact .inr ⟨g,cap,cur,hv,aa,h2,h3⟩
theorem Grow.refl(ze:Nat)(e:TypeId)(w:World):Grow ze e w w:=⟨Below.refl _ _,fun _ _ _=>rfl⟩
theorem Grow.ext(h:Grow ze e w w')(hx:Ext w0 w)(hb:w0.heap.size<=ze):Ext w0 w':=⟨hx.below.trans (h.below.mono hb)⟩
theorem Arr.grow(h:Arr w A e' vs)(hg:Grow ze e w w')(hne:e'≠e):Arr w' A e' vs:=
 h.keep fun b cs fr hb=>hg.typed b (zi hb) fun cs' fr' hh=>by rw[hb]at hh;injection hh with hh;injection hh with _ he;exact hne he
theorem Ints.grow{k:IntKind}(h:Ints w A e' k l)(hg:Grow ze e w w')(hne:e'≠e):Ints w' A e' k l:=Arr.grow h hg hne
theorem IntV.grow{neg:Bool}(h:IntV w neg A n c z)(hg:Grow ze e w w')(hne:212≠e):IntV w' neg A n c z:=by
 obtain⟨l,h1,h2,h3,h4,h5,h6,h7⟩:=h;exact⟨l,h1,h2,h3,h4,h5,h6.grow hg hne,h7⟩
end
section
variable {P:Program} (w:World)
theorem zkk(ze:Nat)(t ty e:TypeId)(i:TypeInfo)(size:Nat)(ht:P.underlying t=some (.slice e))(hi:P.info? e=some i)
  (v:Value) (n:Nat) (xs:List Value) (zsq:w.ownsRow ze e size v n xs) (c:Nat):(Builtin.append_ #[t,t] ty #[v,.slice none 0 c]).run P w= .ok v w:=by
 rcases zsq.2 with ⟨rfl,rfl⟩|⟨g,cap,cur,rfl,_,_,hnc,_⟩
 ·simp[Builtin.append_,run_underlying ht,sizeOf,typeInfo,hi,Builtin.lenOf,Builtin.firstCells]
 ·simp[Builtin.append_,run_underlying ht,sizeOf,typeInfo,hi,Builtin.lenOf,Builtin.firstCells,hnc,storeCells]
theorem zfh{w w':World}{ze:Nat}{size:Nat}{v:Value}{xs:List Value}(zsq:w.ownsRow ze e size v n xs)(hg:w.grownBy w' v.ownBlock)(zsK:ze<=w.heap.size):Grow ze e w w':=by
 have zsr:∀k,v.ownBlock=some k->ze<=k:=fun k hk=>(zsq.lt k hk).1
 refine⟨(Below.refl ze w).grown hg zsK zsr,fun k hk hne=>hg.block k hk fun hh=>?_⟩;rcases zsq.2 with ⟨rfl,_⟩|⟨g,cap,cur,rfl,_,h2,_⟩
 ·simp[Value.ownBlock]at hh
 ·have:k=g:=by simpa[Value.ownBlock] using hh
  subst this;exact hne _ _ h2
theorem zkl(ze:Nat)(t ty e:TypeId)(z:Value)(size bytes:Nat)(ht:P.underlying t=some (.slice e))(hi:(P.info? e).map (fun i=>(i.zero,i.size,i.bytes))=some (some z,size,bytes))
  (hzs:z.cells.size=size) (hsz:0<size) (hb:bytes<=128)
  (A:Option Addr) (n c:Nat) (xs:List Value) (zsq:Own w ze e size A n c xs)
  (A':Option Addr) (m c':Nat) (news:List Value) (zsA:Arr w A' te news) (hl:news.length=m*size) (h1:∀u∈news,u.oneCell'=true)
  (h63:n+m<=1099511627776) (zsK:ze<=w.heap.size):
  ∃A1 c1 w',(Builtin.append_ #[t,t] ty #[.slice A n c,.slice A' m c']).run P w= .ok (.slice A1 (n+m) c1) w'/\Own w' ze e size A1 (n+m) c1 (xs++news)/\Grow ze e w w':=by
 obtain⟨i,hi1,hz,hs,hby⟩:=info_parts hi;have zuB:(n+m)*bytes<=140737488355328:=by
  have:(n+m)*bytes<=(n+m)*128:=Nat.mul_le_mul_left _ hb;omega
 have key:∀(v':Value)(w':World),w'.ownsRow ze e size v' (n+m) (xs++news)->∃A1 c1,v'= .slice A1 (n+m) c1:=by
  intro v' w' h;rcases h.2 with ⟨rfl,hn⟩|⟨g,cap,cur,rfl,_⟩
  ·exact⟨none,0,by rw[hn]⟩
  ·exact⟨_,cap,rfl⟩
 rcases A' with _|ad
 ·have hm:m=0:=by
   rcases Nat.eq_zero_or_pos m with h0|h0
   ·exact h0
   ·have:0<news.length:=by rw[hl];exact Nat.mul_pos h0 hsz
    obtain⟨b,o,_,_,h,_⟩:=zsA this
    cases h
  subst hm;have hn:news=[]:=List.eq_nil_of_length_eq_zero (by simpa using hl);subst hn;exact⟨A,c,w,zkk w ze t ty e i size ht hi1 _ n xs zsq c',by simpa[Own] using zsq,Grow.refl _ _ _⟩
 ·have ztB:∀j u,news[j]? =some u->w.cell? (ad.add j)=some u:=by
   intro j u hu;obtain⟨b,o,h,hc,_⟩:=zsA.at_ hu;injection h with h
   subst h;have:(⟨b,o,none⟩:Addr).add j=⟨b,o+j,none⟩:=by
    unfold Addr.add;split
    ·simp_all
    ·rfl
   rw[this];exact hc
  obtain⟨v',w',zsV,h2,h3,_,_⟩:=run_append_own_at (P:=P) w ze t ty e i z size bytes ht hi1 hz hs hby hzs hsz _ n xs zsq ad m c' news hl ztB h1 (by simp only[maxLen];omega) zuB zsK;obtain⟨A1,c1,rfl⟩:=key _ _ h2;exact⟨A1,c1,w',zsV,h2,zfh zsq h3 zsK⟩
theorem zfi{o:Oper}{a:Act}{K:Act->World->Prop}{Q:Exit->Act->World->Prop}(s x:Operand)(t:TypeId)
  (ho:o.op= .call {callee:= .builtin .append,args:=#[s,x],argTypes:=#[t,t]})
  (ze:Nat) (e:TypeId) (z:Value) (size bytes:Nat) (ht:P.underlying t=some (.slice e)) (hi:(P.info? e).map (fun i=>(i.zero,i.size,i.bytes))=some (some z,size,bytes))
  (hzs:z.cells.size=size) (hsz:0<size) (hb:bytes<=128)
  (A:Option Addr) (n c:Nat) (xs:List Value) (hs:a.eval s= .slice A n c) (zsq:Own w ze e size A n c xs)
  (A':Option Addr) (m c':Nat) (news:List Value) (hx:a.eval x= .slice A' m c') (zsA:Arr w A' te news) (hl:news.length=m*size) (h1:∀u∈news,u.oneCell'=true)
  (h63:n+m<=1099511627776) (zsK:ze<=w.heap.size)
  (h:∀A1 c1 w',Own w' ze e size A1 (n+m) c1 (xs++news)->Grow ze e w w'->K (a.put o.dst (.slice A1 (n+m) c1)) w'):o.wp P a w K Q:=by
 obtain⟨A1,c1,w',zsV,h2,h3⟩:=zkl (P:=P) w ze t o.type e z size bytes ht hi hzs hsz hb A n c xs zsq A' m c' news zsA hl h1 h63 zsK;unfold Oper.wp execOp;simp only[ho,resolve,invoke,builtin,Sem.run_bind,Sem.run_pure,Result.andThen_ok,List.map_toArray,List.map_cons,List.map_nil,hs,hx,zsV];exact h A1 c1 w' h2 h3
theorem Zp{ops:Array Oper}{rest:List Oper}{o:Oper}{a:Act}{Q:Exit->Act->World->Prop}(hgd:o.guard=none)(s x:Operand)(t:TypeId)
  (ho:o.op= .call {callee:= .builtin .append,args:=#[s,x],argTypes:=#[t,t]})
  (ze:Nat) (e:TypeId) (z:Value) (size bytes:Nat) (ht:P.underlying t=some (.slice e)) (hi:(P.info? e).map (fun i=>(i.zero,i.size,i.bytes))=some (some z,size,bytes))
  (hzs:z.cells.size=size) (hsz:0<size) (hb:bytes<=128)
  (A:Option Addr) (n c:Nat) (xs:List Value) (hs:a.eval s= .slice A n c) (zsq:Own w ze e size A n c xs)
  (A':Option Addr) (m c':Nat) (news:List Value) (hx:a.eval x= .slice A' m c') (zsA:Arr w A' te news) (hl:news.length=m*size) (h1:∀u∈news,u.oneCell'=true)
  (h63:n+m<=1099511627776) (zsK:ze<=w.heap.size)
  (h:∀A1 c1 w',Own w' ze e size A1 (n+m) c1 (xs++news)->Grow ze e w w'->wpList P ops Q rest (a.put o.dst (.slice A1 (n+m) c1)) w'):wpList P ops Q (o::rest) a w:=
 wpList_plain hgd fun _ hK=>zfi w s x t ho ze e z size bytes ht hi hzs hsz hb A n c xs hs zsq A' m c' news hx zsA hl h1 h63 zsK fun A1 c1 w' h2 h3=>hK _ _ (h A1 c1 w' h2 h3)
theorem QS{ops:Array Oper}{o:Oper}{a:Act}{K:Act->World->Prop}{Q:Exit->Act->World->Prop}{E:Prop}(hgd:o.guard=none)(s x:Operand)(t:TypeId)
  (ho:o.op= .call {callee:= .builtin .append,args:=#[s,x],argTypes:=#[t,t]})
  (ze:Nat) (e:TypeId) (z:Value) (size bytes:Nat) (ht:P.underlying t=some (.slice e)) (hi:(P.info? e).map (fun i=>(i.zero,i.size,i.bytes))=some (some z,size,bytes))
  (hzs:z.cells.size=size) (hsz:0<size) (hb:bytes<=128)
  (A:Option Addr) (n c:Nat) (xs:List Value) (hs:a.eval s= .slice A n c) (zsq:Own w ze e size A n c xs)
  (A':Option Addr) (m c':Nat) (news:List Value) (hx:a.eval x= .slice A' m c') (zsA:Arr w A' te news) (hl:news.length=m*size) (h1:∀u∈news,u.oneCell'=true)
  (h63:n+m<=1099511627776) (zsK:ze<=w.heap.size)
  (h:∀A1 c1 w',Own w' ze e size A1 (n+m) c1 (xs++news)->Grow ze e w w'->K (a.put o.dst (.slice A1 (n+m) c1)) w'):
  if Region.wanted o (yielded ops a.tmps)=true then Oper.wp P o a w K Q else E:=by
 have hw:Region.wanted o (yielded ops a.tmps)=true:=by simp[Region.wanted,hgd]
 rw[if_pos hw];exact zfi w s x t ho ze e z size bytes ht hi hzs hsz hb A n c xs hs zsq A' m c' news hx zsA hl h1 h63 zsK h
end
theorem JM(h:j<=l.length):(l.take j).length=j:=by rw[List.length_take,Nat.min_eq_left h]
theorem zdb(P t:Int):P*(t%4294967296)+P*4294967296*(t / 4294967296)=P*t:=by
 rw[Int.mul_assoc,<-Int.mul_add];congr 1
 omega
theorem Qn(hk:s.length=k)(cy t V W:Int)(h:val s+(4294967296:Int)^k*cy=V)(ht:(4294967296:Int)^k*(t-cy)=W):
  val (s++[t%4294967296])+(4294967296:Int)^(k+1)*(t / 4294967296)=V+W:=by
 rw[JK,hk,Int.pow_succ,Int.add_assoc,zdb,<-h,<-ht,Int.mul_sub];omega
theorem ZU(h:l.length<=k):val (l.take k)=val l:=by rw[List.take_of_length_le h]
theorem qA(h:s.length=k)(x:Int):(s++[x]).length=k+1:=by simp[h]
theorem Limbs.snoc(h:Limbs s)(h0:0<=t)(h1:t<4294967296):Limbs (s++[t]):=h.append (Limbs.cons ⟨h0,h1⟩ Limbs.nil)
theorem Row.drewN{k:IntKind}(h:Row w g e k l)(n:Nat):Row (w.drewN n) g e k l:=h
theorem Row.fill{k:IntKind}(h:Row w g e k (s++List.replicate n 0))(hn:0<n)(hi:s.length=i)(x:Int):
  Row (w.setCell ⟨g,i,none⟩ (.int k x)) g e k ((s++[x])++List.replicate (n-1) 0):=by
 have:=h.set i x;rw[<-hi]at this|-
 rwa [zkf s n x hn]at this
theorem zkm(ha:Ints w A 212 .u32 l)(hb:Ints w B 212 .u32 m)(hl:Limbs l)(hm:Limbs m)
  (h1:l.length<=1099511627776) (hn:m.length<=l.length):
  Cq 287 #[.slice A l.length c,.slice B m.length d] w (Qk w (val l+val m)):=by
 have hmk:=qz (P:=Tryz.prog) Tryz.underlying100 Tryz.infoU32 aa ((l.length:Int)+1) aa aa;go_enter Tryz.func287,Tryz.ntmps287;go_wp2;go_loopw [6,7,22] (fun c _ i wr=>∃(k:Nat) (s:List Int) (cy:Int),k<=m.length/\i= .int .i64 k/\c= .int .u64 cy/\0<=cy/\cy<=1/\Hid (s.length=k)/\Limbs s/\Hid (val s+(4294967296:Int)^k*cy=val (l.take k)+val (m.take k))/\Row wr w.heap.size 212 .u32 (s++List.replicate (l.length+1-k) 0)/\Ext w wr) (fun _ _ i _=>m.length-(intOf i).toNat)
 case atStart=>exact⟨0,[],0,aa,rfl,rfl,aa,aa,Zh rfl,Limbs.nil,by simp[Hid,val],by simpa using Row.made w _ _ _,Zi⟩
 case round=>
  obtain⟨k,s,cy,hk,rfl,rfl,hc0,hc1,HS,hs,hv,zsr,hxr⟩:=hrel;by_cases hlt:k<m.length
  ·obtain⟨b,o,x,rfl,hx',hcx,hbx⟩:=(ha.ext hxr).at_ (i:=k) aa;obtain⟨b',o',y,rfl,hy',hcy,hby⟩:=(hb.ext hxr).at_ (i:=k) aa;obtain⟨hx0,hx1⟩:=hl.get hx';obtain⟨hy0,hy1⟩:=hm.get hy';have HX:=Zh (ZK hx');have HY:=Zh (ZK hy');clear hx' hy';obtain⟨q,hq,hcq⟩:=zsr.cell (i:=k) (by simp[HS.out];omega);have hfq:=zsr.frozen k;clear hq;go_wp2;go_quiet (fail)
   go_wp2;refine⟨⟨k+1,s++[(cy+(x+y))%4294967296],_,aa,by go_num,rfl,aa,aa,Zh (qA HS.out _),hs.snoc aa aa,?_,?_,Zi⟩,by simp[intOf]<;>omega⟩
   ·refine Zh ?_;rw[Qn HS.out cy (cy+(x+y)) _ ((4294967296:Int)^k*x+(4294967296:Int)^k*y) hv.out (by rw[<-Int.mul_add];congr 1;omega),HX.out,HY.out];omega
   ·rw[(aa:l.length+1-(k+1)=l.length+1-k-1)];exact(zsr.drewN nq).fill aa HS.out _
  ·obtain rfl:k=m.length:=aa
   have hv':=hv.out;rw[ZU Zr]at hv';have HV:=Zh hv';clear hv hv' hlt;go_wp2;go_loopw [6,8,51] (fun c _ i wr=>∃(k:Nat) (s:List Int) (cy:Int),m.length+k<=l.length/\i= .int .i64 k/\c= .int .u64 cy/\0<=cy/\cy<=1/\Hid (s.length=m.length+k)/\Limbs s/\Hid (val s+(4294967296:Int)^(m.length+k)*cy=val (l.take (m.length+k))+val m)/\Row wr w.heap.size 212 .u32 (s++List.replicate (l.length+1-(m.length+k)) 0)/\Ext w wr) (fun _ _ i _=>l.length-m.length-(intOf i).toNat)
   case atStart=>exact⟨0,s,cy,aa,rfl,rfl,hc0,hc1,HS,hs,HV,zsr,hxr⟩
   case round=>
    clear HV HS zsr hs hxr hc0 hc1;obtain⟨k,s,cy,hk,rfl,rfl,hc0,hc1,HS,hs,hv,zsr,hxr⟩:=hrel;by_cases hlt:m.length+k<l.length
    ·obtain⟨b,o,x,rfl,hx',hcx,hbx⟩:=(ha.ext hxr).at_ (i:=m.length+k) aa;obtain⟨hx0,hx1⟩:=hl.get hx';have HX:=Zh (ZK hx');clear hx';obtain⟨q,hq,hcq⟩:=zsr.cell (i:=m.length+k) (by simp[HS.out];omega);have hfq:=zsr.frozen (m.length+k);clear hq;go_wp2;refine⟨⟨k+1,s++[(cy+x)%4294967296],_,aa,by go_num,rfl,aa,aa,Zh (qA HS.out _),hs.snoc aa aa,?_,?_,Zi⟩,by simp[intOf]<;>omega⟩
     ·refine Zh ?_;rw[(aa:m.length+(k+1)=m.length+k+1),Qn HS.out cy (cy+x) _ ((4294967296:Int)^(m.length+k)*x) hv.out (by congr 1;omega),HX.out];omega
     ·rw[(aa:l.length+1-(m.length+(k+1))=l.length+1-(m.length+k)-1)];exact zsr.fill aa HS.out _
    ·have hk':m.length+k=l.length:=aa
     rw[hk']at hv zsr HS;rw[(aa:l.length+1-l.length=1)]at zsr;have zst:=hv.out;rw[ZU Zr]at zst;have HF:=Zh zst;clear zst hv hk';obtain⟨q,hq,hcq⟩:=zsr.cell (i:=l.length) (by simp[HS.out]);have hfq:=zsr.frozen l.length;clear hq;have zsG:=zsr.fill aa HS.out cy;simp only[Nat.sub_self,List.replicate_zero,List.append_nil]at zsG;have zss:(s++[cy]).length=l.length+1:=qA HS.out _
     have hT:=zac (c:=l.length+1) zsG.ints aa aa;rw[zss]at hT;have HT:=Zh hT;have HL:=Zh zss;clear hT zss;go_wp2_with (go_at_call 188;refine(HT.out).mono ?_;rintro e w' ⟨j,hj,ht,htv,rfl,rfl⟩)
     go_ret;have hLs:Limbs (s++[cy]):=hs.snoc hc0 aa;refine⟨_,l.length+1,(s++[cy]).take j,?_,zsG.ints.take j,hLs.take j,ht,?_,?_,?_,Step.of _ _⟩
     ·rw[JM hj];rfl
     ·rw[htv,JK,HS.out,HF.out]
     ·simp;have:=HL.out;simp at this;omega
     ·omega
theorem zkn(ha:Ints w A 212 .u32 l)(hb:Ints w B 212 .u32 m)(hl:Limbs l)(hm:Limbs m)
  (h1:l.length<=1099511627776) (hn:m.length<l.length):
  Cq 287 #[.slice B m.length d,.slice A l.length c] w (Qk w (val l+val m)):=by
 have hmk:=qz (P:=Tryz.prog) Tryz.underlying100 Tryz.infoU32 aa ((l.length:Int)+1) aa aa;go_enter Tryz.func287,Tryz.ntmps287;go_wp2;go_loopw [6,7,22] (fun c _ i wr=>∃(k:Nat) (s:List Int) (cy:Int),k<=m.length/\i= .int .i64 k/\c= .int .u64 cy/\0<=cy/\cy<=1/\Hid (s.length=k)/\Limbs s/\Hid (val s+(4294967296:Int)^k*cy=val (l.take k)+val (m.take k))/\Row wr w.heap.size 212 .u32 (s++List.replicate (l.length+1-k) 0)/\Ext w wr) (fun _ _ i _=>m.length-(intOf i).toNat)
 case atStart=>exact⟨0,[],0,aa,rfl,rfl,aa,aa,Zh rfl,Limbs.nil,by simp[Hid,val],by simpa using Row.made w _ _ _,Zi⟩
 case round=>
  obtain⟨k,s,cy,hk,rfl,rfl,hc0,hc1,HS,hs,hv,zsr,hxr⟩:=hrel;by_cases hlt:k<m.length
  ·obtain⟨b,o,x,rfl,hx',hcx,hbx⟩:=(ha.ext hxr).at_ (i:=k) aa;obtain⟨b',o',y,rfl,hy',hcy,hby⟩:=(hb.ext hxr).at_ (i:=k) aa;obtain⟨hx0,hx1⟩:=hl.get hx';obtain⟨hy0,hy1⟩:=hm.get hy';have HX:=Zh (ZK hx');have HY:=Zh (ZK hy');clear hx' hy';obtain⟨q,hq,hcq⟩:=zsr.cell (i:=k) (by simp[HS.out];omega);have hfq:=zsr.frozen k;clear hq;go_wp2;go_quiet (fail)
   go_wp2;refine⟨⟨k+1,s++[(cy+(x+y))%4294967296],_,aa,by go_num,rfl,aa,aa,Zh (qA HS.out _),hs.snoc aa aa,?_,?_,Zi⟩,by simp[intOf]<;>omega⟩
   ·refine Zh ?_;rw[Qn HS.out cy (cy+(x+y)) _ ((4294967296:Int)^k*x+(4294967296:Int)^k*y) hv.out (by rw[<-Int.mul_add];congr 1;omega),HX.out,HY.out];omega
   ·rw[(aa:l.length+1-(k+1)=l.length+1-k-1)];exact(zsr.drewN nq).fill aa HS.out _
  ·obtain rfl:k=m.length:=aa
   have hv':=hv.out;rw[ZU Zr]at hv';have HV:=Zh hv';clear hv hv' hlt;go_wp2;go_loopw [6,8,51] (fun c _ i wr=>∃(k:Nat) (s:List Int) (cy:Int),m.length+k<=l.length/\i= .int .i64 k/\c= .int .u64 cy/\0<=cy/\cy<=1/\Hid (s.length=m.length+k)/\Limbs s/\Hid (val s+(4294967296:Int)^(m.length+k)*cy=val (l.take (m.length+k))+val m)/\Row wr w.heap.size 212 .u32 (s++List.replicate (l.length+1-(m.length+k)) 0)/\Ext w wr) (fun _ _ i _=>l.length-m.length-(intOf i).toNat)
   case atStart=>exact⟨0,s,cy,aa,rfl,rfl,hc0,hc1,HS,hs,HV,zsr,hxr⟩
   case round=>
    clear HV HS zsr hs hxr hc0 hc1;obtain⟨k,s,cy,hk,rfl,rfl,hc0,hc1,HS,hs,hv,zsr,hxr⟩:=hrel;by_cases hlt:m.length+k<l.length
    ·obtain⟨b,o,x,rfl,hx',hcx,hbx⟩:=(ha.ext hxr).at_ (i:=m.length+k) aa;obtain⟨hx0,hx1⟩:=hl.get hx';have HX:=Zh (ZK hx');clear hx';obtain⟨q,hq,hcq⟩:=zsr.cell (i:=m.length+k) (by simp[HS.out];omega);have hfq:=zsr.frozen (m.length+k);clear hq;go_wp2;refine⟨⟨k+1,s++[(cy+x)%4294967296],_,aa,by go_num,rfl,aa,aa,Zh (qA HS.out _),hs.snoc aa aa,?_,?_,Zi⟩,by simp[intOf]<;>omega⟩
     ·refine Zh ?_;rw[(aa:m.length+(k+1)=m.length+k+1),Qn HS.out cy (cy+x) _ ((4294967296:Int)^(m.length+k)*x) hv.out (by congr 1;omega),HX.out];omega
     ·rw[(aa:l.length+1-(m.length+(k+1))=l.length+1-(m.length+k)-1)];exact zsr.fill aa HS.out _
    ·have hk':m.length+k=l.length:=aa
     rw[hk']at hv zsr HS;rw[(aa:l.length+1-l.length=1)]at zsr;have zst:=hv.out;rw[ZU Zr]at zst;have HF:=Zh zst;clear zst hv hk';obtain⟨q,hq,hcq⟩:=zsr.cell (i:=l.length) (by simp[HS.out]);have hfq:=zsr.frozen l.length;clear hq;have zsG:=zsr.fill aa HS.out cy;simp only[Nat.sub_self,List.replicate_zero,List.append_nil]at zsG;have zss:(s++[cy]).length=l.length+1:=qA HS.out _
     have hT:=zac (c:=l.length+1) zsG.ints aa aa;rw[zss]at hT;have HT:=Zh hT;have HL:=Zh zss;clear hT zss;go_wp2_with (go_at_call 188;refine(HT.out).mono ?_;rintro e w' ⟨j,hj,ht,htv,rfl,rfl⟩)
     go_ret;have hLs:Limbs (s++[cy]):=hs.snoc hc0 aa;refine⟨_,l.length+1,(s++[cy]).take j,?_,zsG.ints.take j,hLs.take j,ht,?_,?_,?_,Step.of _ _⟩
     ·rw[JM hj];rfl
     ·rw[htv,JK,HS.out,HF.out]
     ·simp;have:=HL.out;simp at this;omega
     ·omega
theorem zfj(ha:Ints w0 A 212 .u32 l)(hb:Ints w1 B 212 .u32 m)(hl:Limbs l)(hm:Limbs m)
  (h1:l.length<=1099511627776) (h2:m.length<=1099511627776) [hx:Ext w0 w] [hy:Ext w1 w]:
  Cq 287 #[.slice A l.length c,.slice B m.length d] w (Qk w (val l+val m)):=by
 by_cases hn:m.length<=l.length
 ·exact zkm (ha.ext hx) (hb.ext hy) hl hm h1 hn
 ·rw[Int.add_comm];exact zkn (hb.ext hy) (ha.ext hx) hm hl h2 aa
theorem zko(x cy y:Int)(hx0:0<=x)(hx1:x<4294967296)(hc0:0<=cy)(hc1:cy<=1)(hy0:0<=y)(hy1:y<4294967296):
  IntKind.u64.wrap (IntKind.u64.wrap (x-cy)-y)%4294967296=(x-cy-y)%4294967296/\IntKind.u64.wrap (IntKind.u64.wrap (x-cy)-y) / 9223372036854775808=-((x-cy-y) / 4294967296):=by
 simp only[IntKind.wrap_u64];omega
theorem zkp(x cy:Int)(hx0:0<=x)(hx1:x<4294967296)(hc0:0<=cy)(hc1:cy<=1):
  IntKind.u64.wrap (x-cy)%4294967296=(x-cy)%4294967296/\IntKind.u64.wrap (x-cy) / 9223372036854775808=-((x-cy) / 4294967296):=by
 simp only[IntKind.wrap_u64];omega
theorem zfk{W:World}(zsr:Row W g 212 .u32 l)(hl:Limbs l)(hj:j<=l.length)(ht:Tight (l.take j))(hv:val (l.take j)=val l)(hz:val l=z)(hc:l.length<=c)(hc2:c<=9223372036854775807)[hx:Ext w W]:
  Qk w z (.returned (.slice (some ⟨g,0,none⟩) j c)) W:=
 ⟨_,c,l.take j,by rw[JM hj],zsr.ints.take j,hl.take j,ht,hv.trans hz,by rw[JM hj];omega,hc2,Step.of _ _⟩
theorem zdc(ha':Ints w0 A 212 .u32 l)(hb':Ints w1 B 212 .u32 m)(hl:Limbs l)(hm:Limbs m)
  (h1:l.length<=1099511627776) (hn:m.length<=l.length) (hle:val m<=val l) [hx:Ext w0 w] [hy:Ext w1 w]:
  Cq 288 #[.slice A l.length c,.slice B m.length d] w (Qk w (val l-val m)):=by
 have ha:=ha'.ext hx;have hb:=hb'.ext hy;have hmk:=qz (P:=Tryz.prog) Tryz.underlying100 Tryz.infoU32 aa (l.length:Int) aa aa;go_enter Tryz.func288,Tryz.ntmps288;go_wp2;go_loopw [6,7,8,14] (fun c _ _ i wr=>∃(k:Nat) (s:List Int) (cy:Int),k<=l.length/\i= .int .i64 k/\c= .int .u64 cy/\0<=cy/\cy<=1/\Hid (s.length=k)/\Limbs s/\Hid (val s+(4294967296:Int)^k*(-cy)=val (l.take k)-val (m.take k))/\Row wr w.heap.size 212 .u32 (s++List.replicate (l.length-k) 0)/\Ext w wr) (fun _ _ _ i _=>l.length-(intOf i).toNat)
 case atStart=>exact⟨0,[],0,aa,rfl,rfl,aa,aa,Zh rfl,Limbs.nil,by simp[Hid,val],by simpa using Row.made w _ _ _,Zi⟩
 case round=>
  obtain⟨k,s,cy,hk,rfl,rfl,hc0,hc1,HS,hs,hv,zsr,hxr⟩:=hrel;by_cases hlt:k<l.length
  ·obtain⟨b,o,x,rfl,hx',hcx,hbx⟩:=(ha.ext hxr).at_ (i:=k) aa;obtain⟨hx0,hx1⟩:=hl.get hx';have HX:=Zh (ZK hx');clear hx';obtain⟨q,hq,hcq⟩:=zsr.cell (i:=k) (by simp[HS.out];omega);have hfq:=zsr.frozen k;clear hq;by_cases hkm:k<m.length
   ·obtain⟨b',o',y,rfl,hy',hcy,hby⟩:=(hb.ext hxr).at_ (i:=k) aa;obtain⟨hy0,hy1⟩:=hm.get hy';have HY:=Zh (ZK hy');clear hy';go_wp2;obtain⟨e1,e2⟩:=zko x cy y hx0 hx1 hc0 hc1 hy0 hy1;rw[e1,e2];refine⟨⟨k+1,s++[(x-cy-y)%4294967296],_,aa,by go_num,rfl,aa,aa,Zh (qA HS.out _),hs.snoc aa aa,?_,?_,Zi⟩,by simp[intOf]<;>omega⟩
    ·refine Zh ?_;rw[Int.neg_neg,Qn HS.out (-cy) (x-cy-y) _ ((4294967296:Int)^k*x-(4294967296:Int)^k*y) hv.out (by rw[<-Int.mul_sub];congr 1;omega),HX.out,HY.out];omega
    ·rw[(aa:l.length-(k+1)=l.length-k-1)];exact zsr.fill aa HS.out _
   ·have HY:=Zh (show val (m.take (k+1))=val (m.take k) by rw[ZU aa,ZU aa]);go_wp2;obtain⟨e1,e2⟩:=zkp x cy hx0 hx1 hc0 hc1;rw[e1,e2];refine⟨⟨k+1,s++[(x-cy)%4294967296],_,aa,by go_num,rfl,aa,aa,Zh (qA HS.out _),hs.snoc aa aa,?_,?_,Zi⟩,by simp[intOf]<;>omega⟩
    ·refine Zh ?_;rw[Int.neg_neg,Qn HS.out (-cy) (x-cy) _ ((4294967296:Int)^k*x) hv.out (by congr 1;omega),HX.out,HY.out];omega
    ·rw[(aa:l.length-(k+1)=l.length-k-1)];exact zsr.fill aa HS.out _
  ·obtain rfl:k=l.length:=aa
   simp only[Nat.sub_self,List.replicate_zero,List.append_nil]at zsr;have zst:=hv.out;rw[ZU Zr,ZU hn]at zst;have hs1:=qH hs;rw[HS.out]at hs1;have hp:=jf l.length;have hcy:cy=0:=by
    rcases(aa:cy=0∨cy=1) with h|h
    ·exact h
    ·subst h;omega
   subst hcy;have HF:=Zh (show val s=val l-val m by simpa using zst);clear zst hv hs1 hp hc0 hc1;have hT:=zac (c:=l.length) zsr.ints (by rw[HS.out];omega) aa;rw[HS.out]at hT;have HT:=Zh hT;clear hT;go_wp2_with (go_at_call 188;refine(HT.out).mono ?_;rintro e w' ⟨j,hj,ht,htv,rfl,rfl⟩)
   go_ret;exact zfk zsr hs hj ht htv HF.out (by rw[HS.out];omega) aa
theorem zaY{q:Int}(h:l[i]? =some q)(t:Int):val (l.set i t)=val l+(4294967296:Int)^i*(t-q):=by
 induction l generalizing i with
 |nil=>simp at h
 |cons a l ih=>
  cases i with
  |zero=>simp at h;subst h;simp[val];omega
  |succ i=>
   simp only[List.getElem?_cons_succ]at h;simp only[List.set_cons_succ,val,ih h,Int.pow_succ];rw[Int.mul_add,Int.mul_comm ((4294967296:Int)^i) 4294967296,Int.mul_assoc,Int.add_assoc]
theorem Limbs.set(h:Limbs l)(i:Nat)(h0:0<=t)(h1:t<4294967296):Limbs (l.set i t):=fun x hx=>by
 rcases List.mem_or_eq_of_mem_set hx with hx|rfl
 ·exact h x hx
 ·exact⟨h0,h1⟩
theorem zdd(n:Nat):val (List.replicate n 0)=0:=by
 induction n with
 |zero=>rfl
 |succ n ih=>simp[List.replicate_succ,val,ih]
def ZeroFrom(p:List Int)(k:Nat):Prop:=∀j x,k<=j->p[j]? =some x->x=0
theorem ZeroFrom.set(h:ZeroFrom p k)(hi:i<k)(t:Int):ZeroFrom (p.set i t) k:=fun j x hj hx=>by
 rw[List.getElem?_set]at hx;rw[if_neg aa]at hx;exact h j x hj hx
theorem ZeroFrom.mono{k':Nat}(h:ZeroFrom p k)(hk:k<=k'):ZeroFrom p k':=fun j x hj hx=>h j x aa hx
theorem zde(x y:Int)(hx0:0<=x)(hx1:x<4294967296)(hy0:0<=y)(hy1:y<4294967296):0<=x*y/\x*y<=18446744065119617025:=by
 constructor
 ·exact Int.mul_nonneg hx0 hy0
 ·have h1:x*y<=4294967295*y:=Int.mul_le_mul_of_nonneg_right aa hy0;omega
theorem zfl(ha:Ints w A 212 .u32 l)(hb:Ints w B 212 .u32 m)(hl:Limbs l)(hm:Limbs m)
  (h1:l.length<=1099511627776) (h2:m.length<=1099511627776) (zs4:1<l.length∨1<m.length):
  Cq 285 #[.slice A l.length c,.slice B m.length d] w (Qk w (val l*val m)):=by
 have hmk:=qz (P:=Tryz.prog) Tryz.underlying100 Tryz.infoU32 aa ((l.length:Int)+m.length) aa aa;go_enter Tryz.func285,Tryz.ntmps285;by_cases hl1:l.length<=1
 all_goals
  first
   |(have hmb:decide ((m.length:Int)<=1)=false:=by simp;omega)
   |skip
  go_wp2;go_loopw [6,7,8,9,10,11,34] (fun _ _ _ _ _ _ i wr=>∃(k:Nat) (p:List Int),k<=l.length/\i= .int .i64 k/\Hid (p.length=l.length+m.length)/\Limbs p/\ZeroFrom p (k+m.length)/\Hid (val p=val (l.take k)*val m)/\Row wr w.heap.size 212 .u32 p/\Ext w wr) (fun _ _ _ _ _ _ i _=>l.length-(intOf i).toNat)
  case atStart=>
   refine⟨0,List.replicate (l.length+m.length) 0,aa,rfl,Zh af,?_,?_,?_,Row.made w _ _ _,Zi⟩
   ·intro x hx;rw[List.eq_of_mem_replicate hx];omega
   ·intro j x _ hx;exact List.eq_of_mem_replicate (Zm hx)
   ·refine Zh ?_;rw[zdd];simp[val]
  case round=>
   obtain⟨k,p,hk,rfl,HP,hp,hz,hv,zsr,hxr⟩:=hrel;by_cases hlt:k<l.length
   ·obtain⟨b,o,x,rfl,hx',hcx,hbx⟩:=(ha.ext hxr).at_ (i:=k) aa;obtain⟨hx0,hx1⟩:=hl.get hx';have HX:=Zh (ZK hx');clear hx';by_cases hxz:x=0
    ·subst hxz;go_wp2;refine⟨⟨k+1,p,aa,by go_num,HP,hp,hz.mono aa,?_,zsr,hxr⟩,by simp[intOf]<;>omega⟩;refine Zh ?_;rw[HX.out,hv.out];simp
    ·have hxb:(x==0)=false:=by simp[hxz]
     clear hxz;go_wp2;go_loopw [9,10,11,51] (fun cy _ _ j wr'=>∃(q:Nat) (p':List Int) (cv:Int),q<=m.length/\j= .int .i64 q/\cy= .int .u64 cv/\0<=cv/\cv<4294967296/\Hid (p'.length=l.length+m.length)/\Limbs p'/\ZeroFrom p' (k+m.length)/\Hid (val p'+(4294967296:Int)^(k+q)*cv=val p+(4294967296:Int)^k*(x*val (m.take q)))/\Row wr' w.heap.size 212 .u32 p'/\Ext w wr') (fun _ _ _ j _=>m.length-(intOf j).toNat)
     case atStart=>exact⟨0,p,0,aa,rfl,rfl,aa,aa,HP,hp,hz,Zh (by simp[val]),zsr,hxr⟩
     case round=>
      obtain⟨q,p',cv,hq,rfl,rfl,hc0,hc1,HP',hp',hz',hv',zsG,ztC⟩:=hrel;by_cases zsM:q<m.length
      ·obtain⟨b',o',y,rfl,hy',hcy,hby⟩:=(hb.ext ztC).at_ (i:=q) aa;obtain⟨hy0,hy1⟩:=hm.get hy';have HY:=Zh (ZK hy');clear hy';obtain⟨zwm,zwn⟩:=zde x y hx0 hx1 hy0 hy1;obtain⟨r,hr,hcr⟩:=zsG.cell (i:=k+q) (by rw[HP'.out];omega);have hfr:=zsG.frozen (k+q);obtain⟨hr0,hr1⟩:=hp'.get hr;have HR:=Zh hr;clear hr;go_wp2;refine⟨⟨q+1,p'.set (k+q) ((cv+(x*y+r))%4294967296),_,aa,by go_num,rfl,aa,aa,Zh (by rw[List.length_set];exact HP'.out),hp'.set _ aa aa,hz'.set aa _,?_,zsG.set _ _,Zi⟩,by simp[intOf]<;>omega⟩
       refine Zh ?_;rw[zaY HR.out,HY.out];have e1:=zdb ((4294967296:Int)^(k+q)) (cv+(x*y+r));have e2:=hv'.out;rw[(aa:k+(q+1)=k+q+1),Int.pow_succ];have e3:(4294967296:Int)^k*(x*(val (m.take q)+(4294967296:Int)^q*y))=(4294967296:Int)^k*(x*val (m.take q))+(4294967296:Int)^(k+q)*(x*y):=by
        rw[Int.pow_add,Int.mul_add,Int.mul_add,Int.mul_assoc,Int.mul_left_comm x]
       rw[e3];simp only[Int.mul_sub,Int.mul_add]at e1|-
       omega
      ·obtain rfl:q=m.length:=aa
       obtain⟨r,hr,hcr⟩:=zsG.cell (i:=k+m.length) (by rw[HP'.out];omega);have hfr:=zsG.frozen (k+m.length);obtain rfl:r=0:=hz' _ _ Zr hr;have HR:=Zh hr;clear hr;go_wp2;refine⟨⟨k+1,p'.set (k+m.length) cv,aa,by go_num,Zh (by rw[List.length_set];exact HP'.out),hp'.set _ hc0 hc1,(hz'.mono aa).set aa _,?_,zsG.set _ _,Zi⟩,by simp[intOf]<;>omega⟩;refine Zh ?_;have e2:=hv'.out;rw[ZU Zr]at e2
       rw[zaY HR.out,HX.out,Int.sub_zero,e2,hv.out,Int.add_mul,Int.mul_assoc]
   ·obtain rfl:k=l.length:=aa
    have zst:=hv.out;rw[ZU Zr]at zst;have HF:=Zh zst;clear zst hv;have hT:=zac (c:=l.length+m.length) zsr.ints (by rw[HP.out];omega) aa;rw[HP.out]at hT;have HT:=Zh hT;clear hT;go_wp2_with (go_at_call 188;refine(HT.out).mono ?_;rintro e w' ⟨j,hj,ht,htv,rfl,rfl⟩)
    go_ret;exact zfk zsr hp hj ht htv HF.out (by rw[HP.out];omega) aa
theorem zkq(hl:Limbs l)(hm:Limbs m)(h1:l.length<=1)(h2:m.length<=1):0<=val l/\val l<4294967296/\0<=val m/\val m<4294967296/\0<=val l*val m/\val l*val m<=18446744065119617025:=by
 have a1:=QC hl;have a2:=qH hl;have a3:=QC hm;have a4:=qH hm;have a5:=zaV h1;have a6:=zaV h2;simp only[Int.pow_one]at a5 a6;have:=zde (val l) (val m) a1 aa a3 aa;omega
theorem zkr(ha':Ints w0 A 212 .u32 l)(hb':Ints w1 B 212 .u32 m)(hl:Limbs l)(hm:Limbs m)
  (h1:l.length<=1099511627776) (h2:m.length<=1099511627776) [hx:Ext w0 w] [hy:Ext w1 w]:
  Cq 285 #[.slice A l.length c,.slice B m.length d] w (Qk w (val l*val m)):=by
 have ha:=ha'.ext hx;have hb:=hb'.ext hy;by_cases hl1:l.length<=1
 ·by_cases hm1:m.length<=1
  ·obtain⟨a1,a2,a3,a4,a5,a6⟩:=zkq hl hm hl1 hm1;have hw1:=Zh (zbM (c:=c) ha hl aa);have hw2:=Zh (zbM (c:=d) hb hm aa);have hmb:decide ((m.length:Int)<=1)=true:=by simp;omega
   go_enter Tryz.func285,Tryz.ntmps285;go_wp2_with fail
   refine hw1.out.mono ?_;rintro e w' ⟨rfl,rfl⟩;go_wp2_with fail
   refine hw2.out.mono ?_;rintro e w' ⟨rfl,rfl⟩;go_wp2_with fail
   refine(zaX _ a5 aa _).mono ?_;rintro e w' ⟨B1,d1,l1,rfl,h⟩;go_wp2;go_ret;exact⟨B1,d1,l1,rfl,h⟩
  ·exact zfl ha hb hl hm h1 h2 aa
 ·exact zfl ha hb hl hm h1 h2 aa
end Go.Proofs.YtgoaelchibpffaaGreat

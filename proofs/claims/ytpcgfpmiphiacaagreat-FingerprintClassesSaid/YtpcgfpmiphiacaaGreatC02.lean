import Derived.Test.YtpcgfpmiphiacaaGreatC01
import Derived.Maps.AppendAt
set_option maxHeartbeats 8000000
set_option linter.unusedVariables false
set_option linter.unusedSimpArgs false
namespace Go.Proofs.YtpcgfpmiphiacaaGreat
open Go.RowKit
variable {a b t x z:Int} {l m p s:List Int} {c d g i j k n:Nat} {A B:Option Addr} {e te te':TypeId} {w w0 w1:World}
theorem Tryz.infoU32:(Tryz.prog.info? 271).map (fun i=>(i.zero,i.size,i.bytes))=some (some (.int .u32 0),1,4):=by kernel_rfl
theorem ze6(hx:l[k]? =some x)(h0:x≠0):Tight (l.take (k+1)):=by
 have hi:k<l.length:=(Zg.1 hx).1;have hx':l[k]=x:=(Zg.1 hx).2;rw[List.take_succ_eq_append_getElem hi,hx'];simp[Tight,h0]
theorem ze7(hx:l[k]? =some 0):val (l.take (k+1))=val (l.take k):=by
 rw[ZL hx];simp
def zjX(w:World)(A:Option Addr)(c:Nat)(l:List Int)(e:Ending)(w':World):Prop:=∃m:Nat,m<=l.length/\Tight (l.take m)/\val (l.take m)=val l/\e= .returned (.slice A m c)/\w=w'
theorem zaa(h:Ints w A 271 .u32 l)(hc:l.length<=c)(hc2:c<=9223372036854775807):
  Cq 223 #[.slice A l.length c] w (zjX w A c l):=by
 go_enter Tryz.func223,Tryz.ntmps223;go_wp2;go_loop [0] (fun v=>∃m:Nat,m<=l.length/\Hid (val (l.take m)=val l)/\v= .slice A m c) (fun v=>match v with | .slice _ m _=>m|_=>0)
 case atStart=>exact⟨l.length,Zr,by rw[List.take_length];exact Zh rfl,rfl⟩
 case round=>
  obtain⟨m,hm,hv,rfl⟩:=hrel;by_cases h0:0<m
  ·obtain⟨k,rfl⟩:∃k,m=k+1:=⟨m-1,by omega⟩;obtain⟨b,o,x,rfl,hx',zsv,hb⟩:=h.at_ (i:=k) (by omega);have hx:=Zh hx';clear hx';by_cases hx0:x=0
   ·subst hx0;go_wp2;exact⟨⟨k,by omega,by rw[Hid,<-ze7 hx.out];exact hv,rfl⟩,by simp⟩
   ·have hx1:(x==0)=false:=by simp[hx0]
    have ht:=Zh (ze6 hx.out hx0);clear hx0;go_wp2;go_ret;exact⟨k+1,hm,ht.out,hv.out,rfl,rfl⟩
  ·obtain rfl:m=0:=by omega
   go_wp2;go_ret;exact⟨0,by omega,by simp[Tight],hv.out,rfl,rfl⟩
theorem JG(neg:Bool)(h:Ints w0 A 271 .u32 l)(hl:Limbs l)(ht:Tight l)(hc:l.length<=c)(hc2:c<=9223372036854775807)[hx:Ext w0 w]:
  Cq 255 #[.bool neg,.slice A l.length c] w (zD w (zq neg (val l))):=by
 have h1:=h.ext hx;by_cases h0:l=[]
 ·subst h0;go_enter Tryz.func255,Tryz.ntmps255;go_wp2;refine bodyPost_ret (v:= .agg #[.bool false,.slice none 0 0]) (by simp[results,Tryz.results255,go_sem]) rfl ⟨_,_,_,_,rfl,?_,Step.of _ _⟩
  cases neg<;>simpa[val,zq] using IntV.zero _ none 0 (by omega)
 ·have zr7:0<l.length:=List.length_pos_iff.2 h0;have hz:((l.length:Int)==0)=false:=by simp[h0]
  have hv:0<val l:=by
   have:=Ql hl;have:val l≠0:=fun hh=>h0 ((zaT hl ht).1 hh)
   omega
  have zvb:∀w',Ext w w'->IntV w' neg A l.length c (zq neg (val l)):=fun w' hxw=>by
   refine⟨l,rfl,hl,ht,?_,?_,h1.ext hxw,hc,hc2⟩
   ·cases neg<;>simp[zq]<;>omega
   ·cases neg<;>simp[zq]<;>omega
  have HP:=Zh zvb;clear h0 h1 hv zvb;go_enter Tryz.func255,Tryz.ntmps255;go_wp2;exact bodyPost_ret (v:= .agg #[.bool neg,.slice A l.length c]) (by simp[results,Tryz.results255,go_sem]) rfl ⟨_,_,_,_,rfl,HP.out _ Zi,Step.of _ _⟩
theorem ze8(a x:Int)(h1:0<=a)(h2:a<4294967296)(h3:0<=x)(h4:x<4294967296):bits .or .u64 a (x*4294967296)=a+x*4294967296:=by
 rw[u64_or a _ h1 (by omega) (by omega) (by omega),nat_join32' _ _ (by omega) (by omega)];omega
theorem ze9(x:Int)(h3:0<=x)(h4:x<18446744073709551616):bits .or .u64 0 x=x:=by
 rw[u64_or 0 _ (by omega) (by omega) (by omega) (by omega)];simp;omega
theorem zfa(h:l[0]? =some x):val (l.take 1)=x:=by
 have:=ZL h;simpa[val] using this
theorem zbN(h:Ints w A 271 .u32 l)(hl:Limbs l)(h2:l.length<=2):
  Cq 224 #[.slice A l.length c] w (Zv w (.int .u64 (val l))):=by
 go_enter Tryz.func224,Tryz.ntmps224;go_wp2;go_loop [3,8] (fun v i=>∃k:Nat,k<=l.length/\i= .int .i64 k/\v= .int .u64 (val (l.take k))) (fun _ i=>l.length-(intOf i).toNat)
 case atStart=>exact⟨0,by omega,rfl,rfl⟩
 case round=>
  obtain⟨k,hk,rfl,rfl⟩:=hrel;by_cases hlt:k<l.length
  ·obtain rfl|rfl:k=0∨k=1:=by omega
   ·obtain⟨b,o,x,rfl,hx',zsv,hb⟩:=h.at0 hlt;obtain⟨hx0,hx1⟩:=hl.get hx';have hs:=Zh (zfa hx');clear hx';simp only[List.take_zero,val];go_wp2;refine⟨⟨1,by omega,rfl,?_⟩,by simp[intOf];omega⟩;rw[ze9 _ hx0 (by omega),hs.out]
   ·obtain⟨b,o,x,rfl,hx',zsv,hb⟩:=h.at_ hlt;obtain⟨hx0,hx1⟩:=hl.get hx';have hs:=Zh (ZL hx');clear hx';have hy0:=Ql (hl.take 1);have hy1:=qd (hl.take 1);have hy2:(l.take 1).length=1:=by simp;omega
    rw[hy2]at hy1;clear hy2;go_wp2;refine⟨⟨2,by omega,rfl,?_⟩,by simp[intOf];omega⟩;rw[ze8 _ _ hy0 (by omega) hx0 hx1,hs.out];congr 1;omega
  ·obtain rfl:k=l.length:=by omega
   go_wp2;go_ret;exact⟨by simp,rfl⟩
theorem zfb(n:Int):val [n%4294967296,n / 4294967296]=n:=by
 simp only[val];omega
theorem zaU(n:Int)(h0:0<=n)(h1:n<18446744073709551616)(w:World):
  Cq 256 #[.int .u64 n] w (Qt w n):=by
 have hl:Limbs [n%4294967296,n / 4294967296]:=Limbs.cons (by omega) (Limbs.cons (by omega) Limbs.nil);have hi:=Arr.new w 271 #[.int .u32 (n%4294967296),.int .u32 (n / 4294967296)];have hi':Ints (w.alloc (.cells #[.int .u32 (n%4294967296),.int .u32 (n / 4294967296)] 271)) (some ⟨w.heap.size,0,none⟩) 271 .u32 [n%4294967296,n / 4294967296]:=hi;have hc:=zaa (c:=2) hi' (by simp) (by omega);have HC:=Zh hc
 clear hc hi;go_enter Tryz.func256,Tryz.ntmps256;go_wp2_with (go_at_call 223;refine(HC.out).mono ?_;rintro e w' ⟨m,hm,ht,hv,rfl,rfl⟩)
 go_ret;refine⟨_,2,[n%4294967296,n / 4294967296].take m,?_,hi'.take m,hl.take m,ht,by rw[hv,zfb],?_,by omega,Step.of _ _⟩
 ·have:m<=2:=hm;simp[Nat.min_eq_left this]
 ·simp;omega
theorem zjY(n:Int)(h0:n<0)(h1:-9223372036854775808<=n)(w:World):
  Cq 220 #[.int .i64 n] w (zD w n):=by
 go_enter Tryz.func220,Tryz.ntmps220;go_wp2_with fail
 rw[show IntKind.u64.wrap (-IntKind.u64.wrap n)=-n by simp only[IntKind.wrap_u64];omega];refine(zaU (-n) (by omega) (by omega) _).mono ?_;rintro e w1 ⟨B1,d1,l1,rfl,hi1,hl1,ht1,hv1,hd1,hd2,hs1⟩;have HV:=Zh hv1;clear hv1;go_wp2_with fail
 refine(JG true hi1 hl1 ht1 hd1 hd2).mono ?_;rintro e w2 ⟨g,B,k,d,rfl,hz,hs2⟩;obtain⟨q0,q1,q2,q3,q4,q5⟩:=qR w w2 (.bool false) (.slice none 0 0) 149;have Q0:=Zh q0;clear q0;go_wp2;refine bodyPost_ret (v:= .agg #[.bool g,.slice B k d]) (by simp[results,Tryz.results220,go_sem,q1,q2]) rfl ⟨_,_,_,_,rfl,?_,Step.of _ _⟩;have e1:zq true (val l1)=n:=by rw[HV.out];simp[zq]
 rw[e1]at hz;exact hz.boxed (by decide) Q0.out _ _
theorem zjZ(n:Int)(h0:0<=n)(h1:n<=9223372036854775807)(w:World):
  Cq 220 #[.int .i64 n] w (zD w n):=by
 go_enter Tryz.func220,Tryz.ntmps220;go_wp2_with fail
 try rw[show IntKind.u64.wrap n=n by simp only[IntKind.wrap_u64];omega]
 refine(zaU n (by omega) (by omega) _).mono ?_;rintro e w1 ⟨B1,d1,l1,rfl,hi1,hl1,ht1,hv1,hd1,hd2,hs1⟩;have HV:=Zh hv1;clear hv1;go_wp2_with fail
 refine(JG false hi1 hl1 ht1 hd1 hd2).mono ?_;rintro e w2 ⟨g,B,k,d,rfl,hz,hs2⟩;obtain⟨q0,q1,q2,q3,q4,q5⟩:=qR w w2 (.bool false) (.slice none 0 0) 149;have Q0:=Zh q0;clear q0;go_wp2;refine bodyPost_ret (v:= .agg #[.bool g,.slice B k d]) (by simp[results,Tryz.results220,go_sem,q1,q2]) rfl ⟨_,_,_,_,rfl,?_,Step.of _ _⟩;have e1:zq false (val l1)=n:=by rw[HV.out];simp[zq]
 rw[e1]at hz;exact hz.boxed (by decide) Q0.out _ _
theorem zcU(n:Int)(h0:-9223372036854775808<=n)(h1:n<=9223372036854775807)(w:World):
  Cq 220 #[.int .i64 n] w (zD w n):=by
 by_cases h:n<0
 ·exact zjY n h h0 w
 ·exact zjZ n (by omega) h1 w
def zk(a b:Int):Int:=if a<b then-1 else if a=b then 0 else 1
theorem ql(h:a<b):zk a b=-1:=by simp[zk,h]
theorem qH(h:b<a):zk a b=1:=by simp[zk];omega
theorem q9(h:a=b):zk a b=0:=by simp[zk,h]
theorem Je(hl:Limbs l)(hm:Limbs m)(ht:Tight m)(h:l.length<m.length):val l<val m:=by
 have h1:=qd hl;have h2:=zcT hm ht (by omega);have h3:=J9 (m:=l.length) (n:=m.length-1) (by omega);omega
theorem zbO(k:Nat):val l=val (l.take k)+(4294967296:Int)^(l.take k).length*val (l.drop k):=by
 rw[<-ze5,List.take_append_drop]
theorem zbP(hl:Limbs l)(hm:Limbs m){y:Int}(hx:l[k]? =some x)(hy:m[k]? =some y)(hd:l.drop (k+1)=m.drop (k+1))(h:x<y):val l<val m:=by
 have hk:k<l.length:=(Zg.1 hx).1;have hk':k<m.length:=(Zg.1 hy).1;rw[zbO (l:=l) (k+1),zbO (l:=m) (k+1),hd,ZL hx,ZL hy];rw[List.length_take,List.length_take,Nat.min_eq_left (by omega),Nat.min_eq_left (by omega)];have h1:=qd (hl.take k);rw[List.length_take,Nat.min_eq_left (by omega)]at h1;have h2:=Ql (hm.take k);have h3:(4294967296:Int)^k*(x+1)<=(4294967296:Int)^k*y:=Int.mul_le_mul_of_nonneg_left (by omega) (by have:=jb k;omega)
 rw[Int.mul_add]at h3;omega
theorem zj0(ha:Ints w A 271 .u32 l)(hb:Ints w B 271 .u32 m)(hl:Limbs l)(hm:Limbs m)
  (h1:l.length<=9223372036854775807) (hn:m.length=l.length):
  Cq 287 #[.slice A l.length c,.slice B l.length d] w (zy w (.int .i64 (zk (val l) (val m)))):=by
 have HN:=Zh hn;clear hn;go_enter Tryz.func287,Tryz.ntmps287;go_wp2;go_loopw [5] (fun i wr=>∃k:Nat,k<=l.length/\i= .int .i64 ((k:Int)-1)/\Hid (l.drop k=m.drop k)/\Ext w wr) (fun i _=>(intOf i+1).toNat)
 case atStart=>exact⟨l.length,by omega,rfl,by simp[Hid,HN.out],Zi⟩
 case round=>
  obtain⟨k,hk,rfl,hd,hxr⟩:=hrel
  cases k with
  |zero=>
   go_wp2;go_ret;refine⟨?_,hxr.toStep⟩;have:=hd.out;simp only[List.drop_zero]at this;rw[q9 (by rw[this])];rfl
  |succ j=>
   obtain⟨b,o,x,rfl,hx',hcx,hbx⟩:=(ha.ext hxr).at_ (i:=j) (by omega);obtain⟨b',o',y,rfl,hy',hcy,hby⟩:=(hb.ext hxr).at_ (i:=j) (by have:=HN.out;omega);obtain⟨hx0,hx1⟩:=hl.get hx';obtain⟨hy0,hy1⟩:=hm.get hy';have HX:=Zh hx';have HY:=Zh hy';clear hx' hy';rw[show ((j+1:Nat):Int)-1=(j:Int) by omega];by_cases hlt:x<y
   ·have zuz:decide (x<y)=true:=by simpa using hlt
    have e1:=Zh (ql (zbP hl hm HX.out HY.out hd.out hlt));go_wp2;go_quiet (fail)
    go_wp2;go_ret;exact⟨by rw[e1.out];rfl,(Zi:Ext w (wr.drewN nq)).toStep⟩
   ·by_cases hgt:y<x
    ·have zuz:decide (x<y)=false:=by simpa using hlt
     have zxH:decide (y<x)=true:=by simpa using hgt
     have e1:=Zh (qH (zbP hm hl HY.out HX.out hd.out.symm hgt));clear hlt;go_wp2;go_quiet (fail)
     go_wp2;go_quiet (fail)
     go_wp2;go_ret;exact⟨by rw[e1.out];rfl,(Zi:Ext w _).toStep⟩
    ·obtain rfl:x=y:=by omega
     have hd':Hid (l.drop j=m.drop j):=by
      have h1:j<l.length:=(Zg.1 HX.out).1;have h2:j<m.length:=(Zg.1 HY.out).1;unfold Hid;rw[List.drop_eq_getElem_cons h1,List.drop_eq_getElem_cons h2,hd.out,(Zg.1 HX.out).2,(Zg.1 HY.out).2]
     clear hlt hgt;go_wp2;go_quiet (fail)
     go_wp2;go_quiet (fail)
     go_wp2;exact⟨⟨j,by omega,rfl,hd',Zi⟩,by simp[intOf]<;>omega⟩
theorem zcV(ha:Ints w0 A 271 .u32 l)(hb:Ints w1 B 271 .u32 m)(hl:Limbs l)(hm:Limbs m)(tl:Tight l)(tm:Tight m)
  (h1:l.length<=9223372036854775807) (h2:m.length<=9223372036854775807) [hx:Ext w0 w] [hy:Ext w1 w]:
  Cq 287 #[.slice A l.length c,.slice B m.length d] w (zy w (.int .i64 (zk (val l) (val m)))):=by
 by_cases hlt:l.length<m.length
 ·have e1:=Zh (ql (Je hl hm tm hlt));go_enter Tryz.func287,Tryz.ntmps287;go_wp2;go_ret;exact⟨by rw[e1.out];rfl,Step.of _ _⟩
 by_cases hgt:m.length<l.length
 ·have e1:=Zh (qH (Je hm hl tl hgt));go_enter Tryz.func287,Tryz.ntmps287;go_wp2;go_ret;exact⟨by rw[e1.out];rfl,Step.of _ _⟩
 have hn:m.length=l.length:=by omega
 rw[hn];exact zj0 (ha.ext hx) (hb.ext hy) hl hm h1 hn
def Own(w:World)(zf:Nat)(e:TypeId)(size:Nat)(A:Option Addr)(n c:Nat)(xs:List Value):Prop:=w.ownsRow zf e size (.slice A n c) n xs
structure Grow(zf:Nat)(e:TypeId)(w w':World):Prop where
 below:Below zf w w'
 typed:∀k:Nat,k<w.heap.size->(∀(cs:Array Value)(fr:Nat×Nat),w.heap[k]?≠some (Obj.cells cs e fr))->w'.heap[k]? =w.heap[k]?
section
variable {w w' w0:World} {zf:Nat} {e e':TypeId} {size:Nat} {A:Option Addr} {n c:Nat} {xs vs:List Value}
theorem Own.nil(w:World)(zf:Nat)(e:TypeId)(size:Nat):Own w zf e size none 0 0 []:=World.ownsRow_nil w zf e size
theorem Own.len(h:Own w zf e size A n c xs):xs.length=n*size:=h.1
theorem Own.cap(h:Own w zf e size A n c xs):n<=c/\c<=9223372036854775807:=by
 rcases h.2 with ⟨hv,hn⟩|⟨g,cap,cur,hv,_,_,h1,h2,_⟩
 ·injection hv with _ _ hc;subst hc;subst hn;omega
 ·injection hv with _ _ hc;subst hc;simp only[maxLen]at h2;omega
theorem Own.ext(h:Own w zf e size A n c xs)(hx:Ext w w'):Own w' zf e size A n c xs:=by
 refine⟨h.1,?_⟩;rcases h.2 with hv|⟨g,cap,cur,hv,h1,h2,h3⟩
 ·exact .inl hv
 ·exact .inr ⟨g,cap,cur,hv,h1,zj hx h2,h3⟩
theorem Own.arr(h:Own w zf e size A n c xs):Arr w A e xs:=fun h0=>by
 rcases h.2 with ⟨hv,hn⟩|⟨g,cap,cur,hv,h1,h2,_,_,_,h4⟩
 ·have:=h.1;rw[hn]at this;omega
 ·injection hv with hA
  refine⟨g,0,cur,(0,0),hA,h2,fun j u hu=>?_⟩;rw[Nat.zero_add,<-Array.getElem?_toList];rw[<-h4,List.getElem?_take]at hu;split at hu
  ·exact hu
  ·simp at hu
theorem Own.lower(h:Own w zf e size A n c xs){base':Nat}(hb:base'<=zf):Own w base' e size A n c xs:=by
 refine⟨h.1,?_⟩;rcases h.2 with hv|⟨g,cap,cur,hv,h1,h2,h3⟩
 ·exact .inl hv
 ·exact .inr ⟨g,cap,cur,hv,by omega,h2,h3⟩
theorem Grow.refl(zf:Nat)(e:TypeId)(w:World):Grow zf e w w:=⟨Below.refl _ _,fun _ _ _=>rfl⟩
theorem Grow.ext(h:Grow zf e w w')(hx:Ext w0 w)(hb:w0.heap.size<=zf):Ext w0 w':=⟨hx.below.trans (h.below.mono hb)⟩
theorem Arr.grow(h:Arr w A e' vs)(hg:Grow zf e w w')(hne:e'≠e):Arr w' A e' vs:=
 h.keep fun b cs fr hb=>hg.typed b (zF hb) fun cs' fr' hh=>by rw[hb]at hh;injection hh with hh;injection hh with _ he;exact hne he
theorem Ints.grow{k:IntKind}(h:Ints w A e' k l)(hg:Grow zf e w w')(hne:e'≠e):Ints w' A e' k l:=Arr.grow h hg hne
theorem IntV.grow{neg:Bool}(h:IntV w neg A n c z)(hg:Grow zf e w w')(hne:271≠e):IntV w' neg A n c z:=by
 obtain⟨l,h1,h2,h3,h4,h5,h6,h7⟩:=h;exact⟨l,h1,h2,h3,h4,h5,h6.grow hg hne,h7⟩
end
section
variable {P:Program} (w:World)
theorem zj1(zf:Nat)(t ty e:TypeId)(i:TypeInfo)(size:Nat)(ht:P.underlying t=some (.slice e))(hi:P.info? e=some i)
  (v:Value) (n:Nat) (xs:List Value) (zr5:w.ownsRow zf e size v n xs) (c:Nat):(Builtin.append_ #[t,t] ty #[v,.slice none 0 c]).run P w= .ok v w:=by
 rcases zr5.2 with ⟨rfl,rfl⟩|⟨g,cap,cur,rfl,_,_,hnc,_⟩
 ·simp[Builtin.append_,run_underlying ht,sizeOf,typeInfo,hi,Builtin.lenOf,Builtin.firstCells]
 ·simp[Builtin.append_,run_underlying ht,sizeOf,typeInfo,hi,Builtin.lenOf,Builtin.firstCells,hnc,storeCells]
theorem zfc{w w':World}{zf:Nat}{size:Nat}{v:Value}{xs:List Value}(zr5:w.ownsRow zf e size v n xs)(hg:w.grownBy w' v.ownBlock)(zsw:zf<=w.heap.size):Grow zf e w w':=by
 have zr6:∀k,v.ownBlock=some k->zf<=k:=fun k hk=>(zr5.lt k hk).1
 refine⟨(Below.refl zf w).grown hg zsw zr6,fun k hk hne=>hg.block k hk fun hh=>?_⟩;rcases zr5.2 with ⟨rfl,_⟩|⟨g,cap,cur,rfl,_,h2,_⟩
 ·simp[Value.ownBlock]at hh
 ·have:k=g:=by simpa[Value.ownBlock] using hh
  subst this;exact hne _ _ h2
theorem zj2(zf:Nat)(t ty e:TypeId)(z:Value)(size bytes:Nat)(ht:P.underlying t=some (.slice e))(hi:(P.info? e).map (fun i=>(i.zero,i.size,i.bytes))=some (some z,size,bytes))
  (hzs:z.cells.size=size) (hsz:0<size) (hb:bytes<=128)
  (A:Option Addr) (n c:Nat) (xs:List Value) (zr5:Own w zf e size A n c xs)
  (A':Option Addr) (m c':Nat) (news:List Value) (zsg:Arr w A' te news) (hl:news.length=m*size) (h1:∀u∈news,u.oneCell'=true)
  (h63:n+m<=1099511627776) (zsw:zf<=w.heap.size):
  ∃A1 c1 w',(Builtin.append_ #[t,t] ty #[.slice A n c,.slice A' m c']).run P w= .ok (.slice A1 (n+m) c1) w'/\Own w' zf e size A1 (n+m) c1 (xs++news)/\Grow zf e w w':=by
 obtain⟨i,hi1,hz,hs,hby⟩:=info_parts hi;have ztD:(n+m)*bytes<=140737488355328:=by
  have:(n+m)*bytes<=(n+m)*128:=Nat.mul_le_mul_left _ hb;omega
 have key:∀(v':Value)(w':World),w'.ownsRow zf e size v' (n+m) (xs++news)->∃A1 c1,v'= .slice A1 (n+m) c1:=by
  intro v' w' h;rcases h.2 with ⟨rfl,hn⟩|⟨g,cap,cur,rfl,_⟩
  ·exact⟨none,0,by rw[hn]⟩
  ·exact⟨_,cap,rfl⟩
 rcases A' with _|ad
 ·have hm:m=0:=by
   rcases Nat.eq_zero_or_pos m with h0|h0
   ·exact h0
   ·have:0<news.length:=by rw[hl];exact Nat.mul_pos h0 hsz
    obtain⟨b,o,_,_,h,_⟩:=zsg this
    cases h
  subst hm;have hn:news=[]:=List.eq_nil_of_length_eq_zero (by simpa using hl);subst hn;exact⟨A,c,w,zj1 w zf t ty e i size ht hi1 _ n xs zr5 c',by simpa[Own] using zr5,Grow.refl _ _ _⟩
 ·have zsB:∀j u,news[j]? =some u->w.cell? (ad.add j)=some u:=by
   intro j u hu;obtain⟨b,o,h,hc,_⟩:=zsg.at_ hu;injection h with h
   subst h;have:(⟨b,o,none⟩:Addr).add j=⟨b,o+j,none⟩:=by
    unfold Addr.add;split
    ·simp_all
    ·rfl
   rw[this];exact hc
  obtain⟨v',w',zsl,h2,h3,_,_⟩:=run_append_own_at (P:=P) w zf t ty e i z size bytes ht hi1 hz hs hby hzs hsz _ n xs zr5 ad m c' news hl zsB h1 (by simp only[maxLen];omega) ztD zsw;obtain⟨A1,c1,rfl⟩:=key _ _ h2;exact⟨A1,c1,w',zsl,h2,zfc zr5 h3 zsw⟩
theorem zfd{o:Oper}{a:Act}{K:Act->World->Prop}{Q:Exit->Act->World->Prop}(s x:Operand)(t:TypeId)
  (ho:o.op= .call {callee:= .builtin .append,args:=#[s,x],argTypes:=#[t,t]})
  (zf:Nat) (e:TypeId) (z:Value) (size bytes:Nat) (ht:P.underlying t=some (.slice e)) (hi:(P.info? e).map (fun i=>(i.zero,i.size,i.bytes))=some (some z,size,bytes))
  (hzs:z.cells.size=size) (hsz:0<size) (hb:bytes<=128)
  (A:Option Addr) (n c:Nat) (xs:List Value) (hs:a.eval s= .slice A n c) (zr5:Own w zf e size A n c xs)
  (A':Option Addr) (m c':Nat) (news:List Value) (hx:a.eval x= .slice A' m c') (zsg:Arr w A' te news) (hl:news.length=m*size) (h1:∀u∈news,u.oneCell'=true)
  (h63:n+m<=1099511627776) (zsw:zf<=w.heap.size)
  (h:∀A1 c1 w',Own w' zf e size A1 (n+m) c1 (xs++news)->Grow zf e w w'->K (a.put o.dst (.slice A1 (n+m) c1)) w'):o.wp P a w K Q:=by
 obtain⟨A1,c1,w',zsl,h2,h3⟩:=zj2 (P:=P) w zf t o.type e z size bytes ht hi hzs hsz hb A n c xs zr5 A' m c' news zsg hl h1 h63 zsw;unfold Oper.wp execOp;simp only[ho,resolve,invoke,builtin,Sem.run_bind,Sem.run_pure,Result.andThen_ok,List.map_toArray,List.map_cons,List.map_nil,hs,hx,zsl];exact h A1 c1 w' h2 h3
theorem zM{ops:Array Oper}{rest:List Oper}{o:Oper}{a:Act}{Q:Exit->Act->World->Prop}(hgd:o.guard=none)(s x:Operand)(t:TypeId)
  (ho:o.op= .call {callee:= .builtin .append,args:=#[s,x],argTypes:=#[t,t]})
  (zf:Nat) (e:TypeId) (z:Value) (size bytes:Nat) (ht:P.underlying t=some (.slice e)) (hi:(P.info? e).map (fun i=>(i.zero,i.size,i.bytes))=some (some z,size,bytes))
  (hzs:z.cells.size=size) (hsz:0<size) (hb:bytes<=128)
  (A:Option Addr) (n c:Nat) (xs:List Value) (hs:a.eval s= .slice A n c) (zr5:Own w zf e size A n c xs)
  (A':Option Addr) (m c':Nat) (news:List Value) (hx:a.eval x= .slice A' m c') (zsg:Arr w A' te news) (hl:news.length=m*size) (h1:∀u∈news,u.oneCell'=true)
  (h63:n+m<=1099511627776) (zsw:zf<=w.heap.size)
  (h:∀A1 c1 w',Own w' zf e size A1 (n+m) c1 (xs++news)->Grow zf e w w'->wpList P ops Q rest (a.put o.dst (.slice A1 (n+m) c1)) w'):wpList P ops Q (o::rest) a w:=
 wpList_plain hgd fun _ hK=>zfd w s x t ho zf e z size bytes ht hi hzs hsz hb A n c xs hs zr5 A' m c' news hx zsg hl h1 h63 zsw fun A1 c1 w' h2 h3=>hK _ _ (h A1 c1 w' h2 h3)
theorem QB{ops:Array Oper}{o:Oper}{a:Act}{K:Act->World->Prop}{Q:Exit->Act->World->Prop}{E:Prop}(hgd:o.guard=none)(s x:Operand)(t:TypeId)
  (ho:o.op= .call {callee:= .builtin .append,args:=#[s,x],argTypes:=#[t,t]})
  (zf:Nat) (e:TypeId) (z:Value) (size bytes:Nat) (ht:P.underlying t=some (.slice e)) (hi:(P.info? e).map (fun i=>(i.zero,i.size,i.bytes))=some (some z,size,bytes))
  (hzs:z.cells.size=size) (hsz:0<size) (hb:bytes<=128)
  (A:Option Addr) (n c:Nat) (xs:List Value) (hs:a.eval s= .slice A n c) (zr5:Own w zf e size A n c xs)
  (A':Option Addr) (m c':Nat) (news:List Value) (hx:a.eval x= .slice A' m c') (zsg:Arr w A' te news) (hl:news.length=m*size) (h1:∀u∈news,u.oneCell'=true)
  (h63:n+m<=1099511627776) (zsw:zf<=w.heap.size)
  (h:∀A1 c1 w',Own w' zf e size A1 (n+m) c1 (xs++news)->Grow zf e w w'->K (a.put o.dst (.slice A1 (n+m) c1)) w'):
  if Region.wanted o (yielded ops a.tmps)=true then Oper.wp P o a w K Q else E:=by
 have hw:Region.wanted o (yielded ops a.tmps)=true:=by simp[Region.wanted,hgd]
 rw[if_pos hw];exact zfd w s x t ho zf e z size bytes ht hi hzs hsz hb A n c xs hs zr5 A' m c' news hx zsg hl h1 h63 zsw h
end
section
variable {P:Program} (w:World)
theorem zj3(t ty e:TypeId)(z:Value)(size bytes:Nat)(ht:P.underlying t=some (.slice e))(hi:(P.info? e).map (fun i=>(i.zero,i.size,i.bytes))=some (some z,size,bytes))
  (hzs:z.cells.size=size) (hsz:0<size) (hb:bytes<=128) (g j:Nat) (olds:List Value) (zs7:Arr w (some ⟨g,0,none⟩) te olds) (hlo:olds.length=j*size)
  (A':Option Addr) (m c':Nat) (news:List Value) (zsg:Arr w A' te' news) (hl:news.length=m*size) (hm:0<m) (h63:j+m<=1099511627776):
  ∃c1 w',(Builtin.append_ #[t,t] ty #[.slice (some ⟨g,0,none⟩) j j,.slice A' m c']).run P w= .ok (.slice (some ⟨w.heap.size,0,none⟩) (j+m) c1) w'/\Own w' w.heap.size e size (some ⟨w.heap.size,0,none⟩) (j+m) c1 (olds++news)/\Ext w w':=by
 obtain⟨i,hi1,hz,hs,hby⟩:=info_parts hi;subst hs hby;have ztD:(j+m)*i.bytes<=140737488355328:=by
  have:(j+m)*i.bytes<=(j+m)*128:=Nat.mul_le_mul_left _ hb;omega
 have zsB:∀{A:Option Addr}{te:TypeId}{vs:List Value}(ad:Addr),A=some ad->Arr w A te vs->∀j u,vs[j]? =some u->w.cell? (ad.add j)=some u:=by
  intro A te vs ad hA h j u hu;obtain⟨b,o,hA',hc,_⟩:=h.at_ hu;rw[hA]at hA';injection hA' with hA'
  subst hA';have:(⟨b,o,none⟩:Addr).add j=⟨b,o+j,none⟩:=by
   unfold Addr.add;split
   ·simp_all
   ·rfl
  rw[this];exact hc
 rcases A' with _|ad
 ·have:0<news.length:=by rw[hl];exact Nat.mul_pos hm hsz
  obtain⟨b,o,_,_,h,_⟩:=zsg this
  cases h
 ·have hr:=run_append_grow (P:=P) w t ty e i z ht hi1 hz ⟨g,0,none⟩ j j olds hlo (zsB _ rfl zs7) ad m c' news hl (zsB _ rfl zsg) (by omega) (by omega) (growslice_fits (by omega) ztD);have hge:=grownCap_ge w (j+m) j e;have hcm:grownCap w (j+m) j e<=maxLen:=grownCap_le_maxLen w (j+m) j e (by simp only[maxLen];omega);refine⟨_,_,hr,⟨by rw[List.length_append,hlo,hl,Nat.add_mul],.inr ⟨w.heap.size,_,_,rfl,Zr,heap_alloc_new w.drew _,hge,hcm,?_,?_⟩⟩,Zi⟩
  ·simp only[Array.size_append,List.size_toArray,size_zeroCells,hzs,hlo,hl,<-Nat.add_mul];congr 1
   omega
  ·have zr7:(olds++news).length=(j+m)*i.size:=by rw[List.length_append,hlo,hl,Nat.add_mul]
   simp only[Array.toList_append,List.append_assoc];rw[<-List.append_assoc,<-zr7];exact List.take_left
theorem zj4{ops:Array Oper}{rest:List Oper}{o:Oper}{a:Act}{Q:Exit->Act->World->Prop}(hgd:o.guard=none)(s x:Operand)(t:TypeId)
  (ho:o.op= .call {callee:= .builtin .append,args:=#[s,x],argTypes:=#[t,t]})
  (e:TypeId) (z:Value) (size bytes:Nat) (ht:P.underlying t=some (.slice e)) (hi:(P.info? e).map (fun i=>(i.zero,i.size,i.bytes))=some (some z,size,bytes))
  (hzs:z.cells.size=size) (hsz:0<size) (hb:bytes<=128) (g j:Nat) (olds:List Value) (hs:a.eval s= .slice (some ⟨g,0,none⟩) j j) (zs7:Arr w (some ⟨g,0,none⟩) te olds) (hlo:olds.length=j*size)
  (A':Option Addr) (m c':Nat) (news:List Value) (hx:a.eval x= .slice A' m c') (zsg:Arr w A' te' news) (hl:news.length=m*size) (hm:0<m) (h63:j+m<=1099511627776)
  (h:∀c1 w',Own w' w.heap.size e size (some ⟨w.heap.size,0,none⟩) (j+m) c1 (olds++news)->Ext w w'->wpList P ops Q rest (a.put o.dst (.slice (some ⟨w.heap.size,0,none⟩) (j+m) c1)) w'):wpList P ops Q (o::rest) a w:=
 wpList_plain hgd fun _ hK=>by
  obtain⟨c1,w',zsl,h2,h3⟩:=zj3 (P:=P) w t o.type e z size bytes ht hi hzs hsz hb g j olds zs7 hlo A' m c' news zsg hl hm h63;unfold Oper.wp execOp;simp only[ho,resolve,invoke,builtin,Sem.run_bind,Sem.run_pure,Result.andThen_ok,List.map_toArray,List.map_cons,List.map_nil,hs,hx,zsl];exact hK _ _ (h c1 w' h2 h3)
end
theorem JH(h:j<=l.length):(l.take j).length=j:=by rw[List.length_take,Nat.min_eq_left h]
theorem zcW(P t:Int):P*(t%4294967296)+P*4294967296*(t / 4294967296)=P*t:=by
 rw[Int.mul_assoc,<-Int.mul_add];congr 1
 omega
theorem Qu(hk:s.length=k)(cy t V W:Int)(h:val s+(4294967296:Int)^k*cy=V)(ht:(4294967296:Int)^k*(t-cy)=W):
  val (s++[t%4294967296])+(4294967296:Int)^(k+1)*(t / 4294967296)=V+W:=by
 rw[JF,hk,Int.pow_succ,Int.add_assoc,zcW,<-h,<-ht,Int.mul_sub];omega
theorem ZT(h:l.length<=k):val (l.take k)=val l:=by rw[List.take_of_length_le h]
theorem qI(h:s.length=k)(x:Int):(s++[x]).length=k+1:=by simp[h]
theorem Limbs.snoc(h:Limbs s)(h0:0<=t)(h1:t<4294967296):Limbs (s++[t]):=h.append (Limbs.cons ⟨h0,h1⟩ Limbs.nil)
theorem Row.drewN{k:IntKind}(h:Row w g e k l)(n:Nat):Row (w.drewN n) g e k l:=h
theorem Row.fill{k:IntKind}(h:Row w g e k (s++List.replicate n 0))(hn:0<n)(hi:s.length=i)(x:Int):
  Row (w.setCell ⟨g,i,none⟩ (.int k x)) g e k ((s++[x])++List.replicate (n-1) 0):=by
 have:=h.set i x;rw[<-hi]at this|-
 rwa [zjW s n x hn]at this
theorem zj5(ha:Ints w A 271 .u32 l)(hb:Ints w B 271 .u32 m)(hl:Limbs l)(hm:Limbs m)
  (h1:l.length<=1099511627776) (hn:m.length<=l.length):
  Cq 280 #[.slice A l.length c,.slice B m.length d] w (Qt w (val l+val m)):=by
 have hmk:=ja (P:=Tryz.prog) Tryz.underlying147 Tryz.infoU32 (by omega) ((l.length:Int)+1) (by omega) (by omega);go_enter Tryz.func280,Tryz.ntmps280;go_wp2;go_loopw [6,7,22] (fun c _ i wr=>∃(k:Nat) (s:List Int) (cy:Int),k<=m.length/\i= .int .i64 k/\c= .int .u64 cy/\0<=cy/\cy<=1/\Hid (s.length=k)/\Limbs s/\Hid (val s+(4294967296:Int)^k*cy=val (l.take k)+val (m.take k))/\Row wr w.heap.size 271 .u32 (s++List.replicate (l.length+1-k) 0)/\Ext w wr) (fun _ _ i _=>m.length-(intOf i).toNat)
 case atStart=>exact⟨0,[],0,by omega,rfl,rfl,by omega,by omega,Zh rfl,Limbs.nil,by simp[Hid,val],by simpa using Row.made w _ _ _,Zi⟩
 case round=>
  obtain⟨k,s,cy,hk,rfl,rfl,hc0,hc1,HS,hs,hv,zr6,hxr⟩:=hrel;by_cases hlt:k<m.length
  ·obtain⟨b,o,x,rfl,hx',hcx,hbx⟩:=(ha.ext hxr).at_ (i:=k) (by omega);obtain⟨b',o',y,rfl,hy',hcy,hby⟩:=(hb.ext hxr).at_ (i:=k) (by omega);obtain⟨hx0,hx1⟩:=hl.get hx';obtain⟨hy0,hy1⟩:=hm.get hy';have HX:=Zh (ZL hx');have HY:=Zh (ZL hy');clear hx' hy';obtain⟨q,hq,hcq⟩:=zr6.cell (i:=k) (by simp[HS.out];omega);have hfq:=zr6.frozen k;clear hq;go_wp2;go_quiet (fail)
   go_wp2;refine⟨⟨k+1,s++[(cy+(x+y))%4294967296],_,by omega,by go_num,rfl,by omega,by omega,Zh (qI HS.out _),hs.snoc (by omega) (by omega),?_,?_,Zi⟩,by simp[intOf]<;>omega⟩
   ·refine Zh ?_;rw[Qu HS.out cy (cy+(x+y)) _ ((4294967296:Int)^k*x+(4294967296:Int)^k*y) hv.out (by rw[<-Int.mul_add];congr 1;omega),HX.out,HY.out];omega
   ·rw[show l.length+1-(k+1)=l.length+1-k-1 by omega];exact(zr6.drewN nq).fill (by omega) HS.out _
  ·obtain rfl:k=m.length:=by omega
   have hv':=hv.out;rw[ZT Zr]at hv';have HV:=Zh hv';clear hv hv' hlt;go_wp2;go_loopw [6,8,51] (fun c _ i wr=>∃(k:Nat) (s:List Int) (cy:Int),m.length+k<=l.length/\i= .int .i64 k/\c= .int .u64 cy/\0<=cy/\cy<=1/\Hid (s.length=m.length+k)/\Limbs s/\Hid (val s+(4294967296:Int)^(m.length+k)*cy=val (l.take (m.length+k))+val m)/\Row wr w.heap.size 271 .u32 (s++List.replicate (l.length+1-(m.length+k)) 0)/\Ext w wr) (fun _ _ i _=>l.length-m.length-(intOf i).toNat)
   case atStart=>exact⟨0,s,cy,by omega,rfl,rfl,hc0,hc1,HS,hs,HV,zr6,hxr⟩
   case round=>
    clear HV HS zr6 hs hxr hc0 hc1;obtain⟨k,s,cy,hk,rfl,rfl,hc0,hc1,HS,hs,hv,zr6,hxr⟩:=hrel;by_cases hlt:m.length+k<l.length
    ·obtain⟨b,o,x,rfl,hx',hcx,hbx⟩:=(ha.ext hxr).at_ (i:=m.length+k) (by omega);obtain⟨hx0,hx1⟩:=hl.get hx';have HX:=Zh (ZL hx');clear hx';obtain⟨q,hq,hcq⟩:=zr6.cell (i:=m.length+k) (by simp[HS.out];omega);have hfq:=zr6.frozen (m.length+k);clear hq;go_wp2;refine⟨⟨k+1,s++[(cy+x)%4294967296],_,by omega,by go_num,rfl,by omega,by omega,Zh (qI HS.out _),hs.snoc (by omega) (by omega),?_,?_,Zi⟩,by simp[intOf]<;>omega⟩
     ·refine Zh ?_;rw[show m.length+(k+1)=m.length+k+1 by omega,Qu HS.out cy (cy+x) _ ((4294967296:Int)^(m.length+k)*x) hv.out (by congr 1;omega),HX.out];omega
     ·rw[show l.length+1-(m.length+(k+1))=l.length+1-(m.length+k)-1 by omega];exact zr6.fill (by omega) HS.out _
    ·have hk':m.length+k=l.length:=by omega
     rw[hk']at hv zr6 HS;rw[show l.length+1-l.length=1 by omega]at zr6;have zr8:=hv.out;rw[ZT Zr]at zr8;have HF:=Zh zr8;clear zr8 hv hk';obtain⟨q,hq,hcq⟩:=zr6.cell (i:=l.length) (by simp[HS.out]);have hfq:=zr6.frozen l.length;clear hq;have zso:=zr6.fill (by omega) HS.out cy;simp only[Nat.sub_self,List.replicate_zero,List.append_nil]at zso;have zr7:(s++[cy]).length=l.length+1:=qI HS.out _
     have hT:=zaa (c:=l.length+1) zso.ints (by omega) (by omega);rw[zr7]at hT;have HT:=Zh hT;have HL:=Zh zr7;clear hT zr7;go_wp2_with (go_at_call 223;refine(HT.out).mono ?_;rintro e w' ⟨j,hj,ht,htv,rfl,rfl⟩)
     go_ret;have hLs:Limbs (s++[cy]):=hs.snoc hc0 (by omega);refine⟨_,l.length+1,(s++[cy]).take j,?_,zso.ints.take j,hLs.take j,ht,?_,?_,?_,Step.of _ _⟩
     ·rw[JH hj];rfl
     ·rw[htv,JF,HS.out,HF.out]
     ·simp;have:=HL.out;simp at this;omega
     ·omega
theorem zj6(ha:Ints w A 271 .u32 l)(hb:Ints w B 271 .u32 m)(hl:Limbs l)(hm:Limbs m)
  (h1:l.length<=1099511627776) (hn:m.length<l.length):
  Cq 280 #[.slice B m.length d,.slice A l.length c] w (Qt w (val l+val m)):=by
 have hmk:=ja (P:=Tryz.prog) Tryz.underlying147 Tryz.infoU32 (by omega) ((l.length:Int)+1) (by omega) (by omega);go_enter Tryz.func280,Tryz.ntmps280;go_wp2;go_loopw [6,7,22] (fun c _ i wr=>∃(k:Nat) (s:List Int) (cy:Int),k<=m.length/\i= .int .i64 k/\c= .int .u64 cy/\0<=cy/\cy<=1/\Hid (s.length=k)/\Limbs s/\Hid (val s+(4294967296:Int)^k*cy=val (l.take k)+val (m.take k))/\Row wr w.heap.size 271 .u32 (s++List.replicate (l.length+1-k) 0)/\Ext w wr) (fun _ _ i _=>m.length-(intOf i).toNat)
 case atStart=>exact⟨0,[],0,by omega,rfl,rfl,by omega,by omega,Zh rfl,Limbs.nil,by simp[Hid,val],by simpa using Row.made w _ _ _,Zi⟩
 case round=>
  obtain⟨k,s,cy,hk,rfl,rfl,hc0,hc1,HS,hs,hv,zr6,hxr⟩:=hrel;by_cases hlt:k<m.length
  ·obtain⟨b,o,x,rfl,hx',hcx,hbx⟩:=(ha.ext hxr).at_ (i:=k) (by omega);obtain⟨b',o',y,rfl,hy',hcy,hby⟩:=(hb.ext hxr).at_ (i:=k) (by omega);obtain⟨hx0,hx1⟩:=hl.get hx';obtain⟨hy0,hy1⟩:=hm.get hy';have HX:=Zh (ZL hx');have HY:=Zh (ZL hy');clear hx' hy';obtain⟨q,hq,hcq⟩:=zr6.cell (i:=k) (by simp[HS.out];omega);have hfq:=zr6.frozen k;clear hq;go_wp2;go_quiet (fail)
   go_wp2;refine⟨⟨k+1,s++[(cy+(x+y))%4294967296],_,by omega,by go_num,rfl,by omega,by omega,Zh (qI HS.out _),hs.snoc (by omega) (by omega),?_,?_,Zi⟩,by simp[intOf]<;>omega⟩
   ·refine Zh ?_;rw[Qu HS.out cy (cy+(x+y)) _ ((4294967296:Int)^k*x+(4294967296:Int)^k*y) hv.out (by rw[<-Int.mul_add];congr 1;omega),HX.out,HY.out];omega
   ·rw[show l.length+1-(k+1)=l.length+1-k-1 by omega];exact(zr6.drewN nq).fill (by omega) HS.out _
  ·obtain rfl:k=m.length:=by omega
   have hv':=hv.out;rw[ZT Zr]at hv';have HV:=Zh hv';clear hv hv' hlt;go_wp2;go_loopw [6,8,51] (fun c _ i wr=>∃(k:Nat) (s:List Int) (cy:Int),m.length+k<=l.length/\i= .int .i64 k/\c= .int .u64 cy/\0<=cy/\cy<=1/\Hid (s.length=m.length+k)/\Limbs s/\Hid (val s+(4294967296:Int)^(m.length+k)*cy=val (l.take (m.length+k))+val m)/\Row wr w.heap.size 271 .u32 (s++List.replicate (l.length+1-(m.length+k)) 0)/\Ext w wr) (fun _ _ i _=>l.length-m.length-(intOf i).toNat)
   case atStart=>exact⟨0,s,cy,by omega,rfl,rfl,hc0,hc1,HS,hs,HV,zr6,hxr⟩
   case round=>
    clear HV HS zr6 hs hxr hc0 hc1;obtain⟨k,s,cy,hk,rfl,rfl,hc0,hc1,HS,hs,hv,zr6,hxr⟩:=hrel;by_cases hlt:m.length+k<l.length
    ·obtain⟨b,o,x,rfl,hx',hcx,hbx⟩:=(ha.ext hxr).at_ (i:=m.length+k) (by omega);obtain⟨hx0,hx1⟩:=hl.get hx';have HX:=Zh (ZL hx');clear hx';obtain⟨q,hq,hcq⟩:=zr6.cell (i:=m.length+k) (by simp[HS.out];omega);have hfq:=zr6.frozen (m.length+k);clear hq;go_wp2;refine⟨⟨k+1,s++[(cy+x)%4294967296],_,by omega,by go_num,rfl,by omega,by omega,Zh (qI HS.out _),hs.snoc (by omega) (by omega),?_,?_,Zi⟩,by simp[intOf]<;>omega⟩
     ·refine Zh ?_;rw[show m.length+(k+1)=m.length+k+1 by omega,Qu HS.out cy (cy+x) _ ((4294967296:Int)^(m.length+k)*x) hv.out (by congr 1;omega),HX.out];omega
     ·rw[show l.length+1-(m.length+(k+1))=l.length+1-(m.length+k)-1 by omega];exact zr6.fill (by omega) HS.out _
    ·have hk':m.length+k=l.length:=by omega
     rw[hk']at hv zr6 HS;rw[show l.length+1-l.length=1 by omega]at zr6;have zr8:=hv.out;rw[ZT Zr]at zr8;have HF:=Zh zr8;clear zr8 hv hk';obtain⟨q,hq,hcq⟩:=zr6.cell (i:=l.length) (by simp[HS.out]);have hfq:=zr6.frozen l.length;clear hq;have zso:=zr6.fill (by omega) HS.out cy;simp only[Nat.sub_self,List.replicate_zero,List.append_nil]at zso;have zr7:(s++[cy]).length=l.length+1:=qI HS.out _
     have hT:=zaa (c:=l.length+1) zso.ints (by omega) (by omega);rw[zr7]at hT;have HT:=Zh hT;have HL:=Zh zr7;clear hT zr7;go_wp2_with (go_at_call 223;refine(HT.out).mono ?_;rintro e w' ⟨j,hj,ht,htv,rfl,rfl⟩)
     go_ret;have hLs:Limbs (s++[cy]):=hs.snoc hc0 (by omega);refine⟨_,l.length+1,(s++[cy]).take j,?_,zso.ints.take j,hLs.take j,ht,?_,?_,?_,Step.of _ _⟩
     ·rw[JH hj];rfl
     ·rw[htv,JF,HS.out,HF.out]
     ·simp;have:=HL.out;simp at this;omega
     ·omega
theorem zfe(ha:Ints w0 A 271 .u32 l)(hb:Ints w1 B 271 .u32 m)(hl:Limbs l)(hm:Limbs m)
  (h1:l.length<=1099511627776) (h2:m.length<=1099511627776) [hx:Ext w0 w] [hy:Ext w1 w]:
  Cq 280 #[.slice A l.length c,.slice B m.length d] w (Qt w (val l+val m)):=by
 by_cases hn:m.length<=l.length
 ·exact zj5 (ha.ext hx) (hb.ext hy) hl hm h1 hn
 ·rw[Int.add_comm];exact zj6 (hb.ext hy) (ha.ext hx) hm hl h2 (by omega)
theorem zj7(x cy y:Int)(hx0:0<=x)(hx1:x<4294967296)(hc0:0<=cy)(hc1:cy<=1)(hy0:0<=y)(hy1:y<4294967296):
  IntKind.u64.wrap (IntKind.u64.wrap (x-cy)-y)%4294967296=(x-cy-y)%4294967296/\IntKind.u64.wrap (IntKind.u64.wrap (x-cy)-y) / 9223372036854775808=-((x-cy-y) / 4294967296):=by
 simp only[IntKind.wrap_u64];omega
theorem zj8(x cy:Int)(hx0:0<=x)(hx1:x<4294967296)(hc0:0<=cy)(hc1:cy<=1):
  IntKind.u64.wrap (x-cy)%4294967296=(x-cy)%4294967296/\IntKind.u64.wrap (x-cy) / 9223372036854775808=-((x-cy) / 4294967296):=by
 simp only[IntKind.wrap_u64];omega
theorem zff{W:World}(zr6:Row W g 271 .u32 l)(hl:Limbs l)(hj:j<=l.length)(ht:Tight (l.take j))(hv:val (l.take j)=val l)(hz:val l=z)(hc:l.length<=c)(hc2:c<=9223372036854775807)[hx:Ext w W]:
  Qt w z (.returned (.slice (some ⟨g,0,none⟩) j c)) W:=
 ⟨_,c,l.take j,by rw[JH hj],zr6.ints.take j,hl.take j,ht,hv.trans hz,by rw[JH hj];omega,hc2,Step.of _ _⟩
theorem zcX(ha':Ints w0 A 271 .u32 l)(hb':Ints w1 B 271 .u32 m)(hl:Limbs l)(hm:Limbs m)
  (h1:l.length<=1099511627776) (hn:m.length<=l.length) (hle:val m<=val l) [hx:Ext w0 w] [hy:Ext w1 w]:
  Cq 281 #[.slice A l.length c,.slice B m.length d] w (Qt w (val l-val m)):=by
 have ha:=ha'.ext hx;have hb:=hb'.ext hy;have hmk:=ja (P:=Tryz.prog) Tryz.underlying147 Tryz.infoU32 (by omega) (l.length:Int) (by omega) (by omega);go_enter Tryz.func281,Tryz.ntmps281;go_wp2;go_loopw [6,7,8,14] (fun c _ _ i wr=>∃(k:Nat) (s:List Int) (cy:Int),k<=l.length/\i= .int .i64 k/\c= .int .u64 cy/\0<=cy/\cy<=1/\Hid (s.length=k)/\Limbs s/\Hid (val s+(4294967296:Int)^k*(-cy)=val (l.take k)-val (m.take k))/\Row wr w.heap.size 271 .u32 (s++List.replicate (l.length-k) 0)/\Ext w wr) (fun _ _ _ i _=>l.length-(intOf i).toNat)
 case atStart=>exact⟨0,[],0,by omega,rfl,rfl,by omega,by omega,Zh rfl,Limbs.nil,by simp[Hid,val],by simpa using Row.made w _ _ _,Zi⟩
 case round=>
  obtain⟨k,s,cy,hk,rfl,rfl,hc0,hc1,HS,hs,hv,zr6,hxr⟩:=hrel;by_cases hlt:k<l.length
  ·obtain⟨b,o,x,rfl,hx',hcx,hbx⟩:=(ha.ext hxr).at_ (i:=k) (by omega);obtain⟨hx0,hx1⟩:=hl.get hx';have HX:=Zh (ZL hx');clear hx';obtain⟨q,hq,hcq⟩:=zr6.cell (i:=k) (by simp[HS.out];omega);have hfq:=zr6.frozen k;clear hq;by_cases hkm:k<m.length
   ·obtain⟨b',o',y,rfl,hy',hcy,hby⟩:=(hb.ext hxr).at_ (i:=k) (by omega);obtain⟨hy0,hy1⟩:=hm.get hy';have HY:=Zh (ZL hy');clear hy';go_wp2;obtain⟨e1,e2⟩:=zj7 x cy y hx0 hx1 hc0 hc1 hy0 hy1;rw[e1,e2];refine⟨⟨k+1,s++[(x-cy-y)%4294967296],_,by omega,by go_num,rfl,by omega,by omega,Zh (qI HS.out _),hs.snoc (by omega) (by omega),?_,?_,Zi⟩,by simp[intOf]<;>omega⟩
    ·refine Zh ?_;rw[Int.neg_neg,Qu HS.out (-cy) (x-cy-y) _ ((4294967296:Int)^k*x-(4294967296:Int)^k*y) hv.out (by rw[<-Int.mul_sub];congr 1;omega),HX.out,HY.out];omega
    ·rw[show l.length-(k+1)=l.length-k-1 by omega];exact zr6.fill (by omega) HS.out _
   ·have HY:=Zh (show val (m.take (k+1))=val (m.take k) by rw[ZT (by omega),ZT (by omega)]);go_wp2;obtain⟨e1,e2⟩:=zj8 x cy hx0 hx1 hc0 hc1;rw[e1,e2];refine⟨⟨k+1,s++[(x-cy)%4294967296],_,by omega,by go_num,rfl,by omega,by omega,Zh (qI HS.out _),hs.snoc (by omega) (by omega),?_,?_,Zi⟩,by simp[intOf]<;>omega⟩
    ·refine Zh ?_;rw[Int.neg_neg,Qu HS.out (-cy) (x-cy) _ ((4294967296:Int)^k*x) hv.out (by congr 1;omega),HX.out,HY.out];omega
    ·rw[show l.length-(k+1)=l.length-k-1 by omega];exact zr6.fill (by omega) HS.out _
  ·obtain rfl:k=l.length:=by omega
   simp only[Nat.sub_self,List.replicate_zero,List.append_nil]at zr6;have zr8:=hv.out;rw[ZT Zr,ZT hn]at zr8;have hs1:=qd hs;rw[HS.out]at hs1;have hp:=jb l.length;have hcy:cy=0:=by
    rcases(by omega:cy=0∨cy=1) with h|h
    ·exact h
    ·subst h;omega
   subst hcy;have HF:=Zh (show val s=val l-val m by simpa using zr8);clear zr8 hv hs1 hp hc0 hc1;have hT:=zaa (c:=l.length) zr6.ints (by rw[HS.out];omega) (by omega);rw[HS.out]at hT;have HT:=Zh hT;clear hT;go_wp2_with (go_at_call 223;refine(HT.out).mono ?_;rintro e w' ⟨j,hj,ht,htv,rfl,rfl⟩)
   go_ret;exact zff zr6 hs hj ht htv HF.out (by rw[HS.out];omega) (by omega)
theorem zab{q:Int}(h:l[i]? =some q)(t:Int):val (l.set i t)=val l+(4294967296:Int)^i*(t-q):=by
 induction l generalizing i with
 |nil=>simp at h
 |cons a l ih=>
  cases i with
  |zero=>simp at h;subst h;simp[val];omega
  |succ i=>
   simp only[List.getElem?_cons_succ]at h;simp only[List.set_cons_succ,val,ih h,Int.pow_succ];rw[Int.mul_add,Int.mul_comm ((4294967296:Int)^i) 4294967296,Int.mul_assoc,Int.add_assoc]
theorem Limbs.set(h:Limbs l)(i:Nat)(h0:0<=t)(h1:t<4294967296):Limbs (l.set i t):=fun x hx=>by
 rcases List.mem_or_eq_of_mem_set hx with hx|rfl
 ·exact h x hx
 ·exact⟨h0,h1⟩
theorem zbQ(n:Nat):val (List.replicate n 0)=0:=by
 induction n with
 |zero=>rfl
 |succ n ih=>simp[List.replicate_succ,val,ih]
def ZeroFrom(p:List Int)(k:Nat):Prop:=∀j x,k<=j->p[j]? =some x->x=0
theorem ZeroFrom.set(h:ZeroFrom p k)(hi:i<k)(t:Int):ZeroFrom (p.set i t) k:=fun j x hj hx=>by
 rw[List.getElem?_set]at hx;rw[if_neg (by omega)]at hx;exact h j x hj hx
theorem ZeroFrom.mono{k':Nat}(h:ZeroFrom p k)(hk:k<=k'):ZeroFrom p k':=fun j x hj hx=>h j x (by omega) hx
theorem zcY(x y:Int)(hx0:0<=x)(hx1:x<4294967296)(hy0:0<=y)(hy1:y<4294967296):0<=x*y/\x*y<=18446744065119617025:=by
 constructor
 ·exact Int.mul_nonneg hx0 hy0
 ·have h1:x*y<=4294967295*y:=Int.mul_le_mul_of_nonneg_right (by omega) hy0;omega
theorem zfg(ha:Ints w A 271 .u32 l)(hb:Ints w B 271 .u32 m)(hl:Limbs l)(hm:Limbs m)
  (h1:l.length<=1099511627776) (h2:m.length<=1099511627776) (zuA:1<l.length∨1<m.length):
  Cq 278 #[.slice A l.length c,.slice B m.length d] w (Qt w (val l*val m)):=by
 have hmk:=ja (P:=Tryz.prog) Tryz.underlying147 Tryz.infoU32 (by omega) ((l.length:Int)+m.length) (by omega) (by omega);go_enter Tryz.func278,Tryz.ntmps278;by_cases hl1:l.length<=1
 all_goals
  first
   |(have hmb:decide ((m.length:Int)<=1)=false:=by simp;omega)
   |skip
  go_wp2;go_loopw [6,7,8,9,10,11,34] (fun _ _ _ _ _ _ i wr=>∃(k:Nat) (p:List Int),k<=l.length/\i= .int .i64 k/\Hid (p.length=l.length+m.length)/\Limbs p/\ZeroFrom p (k+m.length)/\Hid (val p=val (l.take k)*val m)/\Row wr w.heap.size 271 .u32 p/\Ext w wr) (fun _ _ _ _ _ _ i _=>l.length-(intOf i).toNat)
  case atStart=>
   refine⟨0,List.replicate (l.length+m.length) 0,by omega,rfl,Zh (by simp),?_,?_,?_,Row.made w _ _ _,Zi⟩
   ·intro x hx;rw[List.eq_of_mem_replicate hx];omega
   ·intro j x _ hx;exact List.eq_of_mem_replicate (Zm hx)
   ·refine Zh ?_;rw[zbQ];simp[val]
  case round=>
   obtain⟨k,p,hk,rfl,HP,hp,hz,hv,zr6,hxr⟩:=hrel;by_cases hlt:k<l.length
   ·obtain⟨b,o,x,rfl,hx',hcx,hbx⟩:=(ha.ext hxr).at_ (i:=k) (by omega);obtain⟨hx0,hx1⟩:=hl.get hx';have HX:=Zh (ZL hx');clear hx';by_cases hxz:x=0
    ·subst hxz;go_wp2;refine⟨⟨k+1,p,by omega,by go_num,HP,hp,hz.mono (by omega),?_,zr6,hxr⟩,by simp[intOf]<;>omega⟩;refine Zh ?_;rw[HX.out,hv.out];simp
    ·have hxb:(x==0)=false:=by simp[hxz]
     clear hxz;go_wp2;go_loopw [9,10,11,51] (fun cy _ _ j wr'=>∃(q:Nat) (p':List Int) (cv:Int),q<=m.length/\j= .int .i64 q/\cy= .int .u64 cv/\0<=cv/\cv<4294967296/\Hid (p'.length=l.length+m.length)/\Limbs p'/\ZeroFrom p' (k+m.length)/\Hid (val p'+(4294967296:Int)^(k+q)*cv=val p+(4294967296:Int)^k*(x*val (m.take q)))/\Row wr' w.heap.size 271 .u32 p'/\Ext w wr') (fun _ _ _ j _=>m.length-(intOf j).toNat)
     case atStart=>exact⟨0,p,0,by omega,rfl,rfl,by omega,by omega,HP,hp,hz,Zh (by simp[val]),zr6,hxr⟩
     case round=>
      obtain⟨q,p',cv,hq,rfl,rfl,hc0,hc1,HP',hp',hz',hv',zso,ztq⟩:=hrel;by_cases zss:q<m.length
      ·obtain⟨b',o',y,rfl,hy',hcy,hby⟩:=(hb.ext ztq).at_ (i:=q) (by omega);obtain⟨hy0,hy1⟩:=hm.get hy';have HY:=Zh (ZL hy');clear hy';obtain⟨zwe,zwf⟩:=zcY x y hx0 hx1 hy0 hy1;obtain⟨r,hr,hcr⟩:=zso.cell (i:=k+q) (by rw[HP'.out];omega);have hfr:=zso.frozen (k+q);obtain⟨hr0,hr1⟩:=hp'.get hr;have HR:=Zh hr;clear hr;go_wp2;refine⟨⟨q+1,p'.set (k+q) ((cv+(x*y+r))%4294967296),_,by omega,by go_num,rfl,by omega,by omega,Zh (by rw[List.length_set];exact HP'.out),hp'.set _ (by omega) (by omega),hz'.set (by omega) _,?_,zso.set _ _,Zi⟩,by simp[intOf]<;>omega⟩
       refine Zh ?_;rw[zab HR.out,HY.out];have e1:=zcW ((4294967296:Int)^(k+q)) (cv+(x*y+r));have e2:=hv'.out;rw[show k+(q+1)=k+q+1 by omega,Int.pow_succ];have e3:(4294967296:Int)^k*(x*(val (m.take q)+(4294967296:Int)^q*y))=(4294967296:Int)^k*(x*val (m.take q))+(4294967296:Int)^(k+q)*(x*y):=by
        rw[Int.pow_add,Int.mul_add,Int.mul_add,Int.mul_assoc,Int.mul_left_comm x]
       rw[e3];simp only[Int.mul_sub,Int.mul_add]at e1|-
       omega
      ·obtain rfl:q=m.length:=by omega
       obtain⟨r,hr,hcr⟩:=zso.cell (i:=k+m.length) (by rw[HP'.out];omega);have hfr:=zso.frozen (k+m.length);obtain rfl:r=0:=hz' _ _ Zr hr;have HR:=Zh hr;clear hr;go_wp2;refine⟨⟨k+1,p'.set (k+m.length) cv,by omega,by go_num,Zh (by rw[List.length_set];exact HP'.out),hp'.set _ hc0 hc1,(hz'.mono (by omega)).set (by omega) _,?_,zso.set _ _,Zi⟩,by simp[intOf]<;>omega⟩;refine Zh ?_;have e2:=hv'.out;rw[ZT Zr]at e2
       rw[zab HR.out,HX.out,Int.sub_zero,e2,hv.out,Int.add_mul,Int.mul_assoc]
   ·obtain rfl:k=l.length:=by omega
    have zr8:=hv.out;rw[ZT Zr]at zr8;have HF:=Zh zr8;clear zr8 hv;have hT:=zaa (c:=l.length+m.length) zr6.ints (by rw[HP.out];omega) (by omega);rw[HP.out]at hT;have HT:=Zh hT;clear hT;go_wp2_with (go_at_call 223;refine(HT.out).mono ?_;rintro e w' ⟨j,hj,ht,htv,rfl,rfl⟩)
    go_ret;exact zff zr6 hp hj ht htv HF.out (by rw[HP.out];omega) (by omega)
theorem zj9(hl:Limbs l)(hm:Limbs m)(h1:l.length<=1)(h2:m.length<=1):0<=val l/\val l<4294967296/\0<=val m/\val m<4294967296/\0<=val l*val m/\val l*val m<=18446744065119617025:=by
 have a1:=Ql hl;have a2:=qd hl;have a3:=Ql hm;have a4:=qd hm;have a5:=J9 h1;have a6:=J9 h2;simp only[Int.pow_one]at a5 a6;have:=zcY (val l) (val m) a1 (by omega) a3 (by omega);omega
theorem zka(ha':Ints w0 A 271 .u32 l)(hb':Ints w1 B 271 .u32 m)(hl:Limbs l)(hm:Limbs m)
  (h1:l.length<=1099511627776) (h2:m.length<=1099511627776) [hx:Ext w0 w] [hy:Ext w1 w]:
  Cq 278 #[.slice A l.length c,.slice B m.length d] w (Qt w (val l*val m)):=by
 have ha:=ha'.ext hx;have hb:=hb'.ext hy;by_cases hl1:l.length<=1
 ·by_cases hm1:m.length<=1
  ·obtain⟨a1,a2,a3,a4,a5,a6⟩:=zj9 hl hm hl1 hm1;have hw1:=Zh (zbN (c:=c) ha hl (by omega));have hw2:=Zh (zbN (c:=d) hb hm (by omega));have hmb:decide ((m.length:Int)<=1)=true:=by simp;omega
   go_enter Tryz.func278,Tryz.ntmps278;go_wp2_with fail
   refine hw1.out.mono ?_;rintro e w' ⟨rfl,rfl⟩;go_wp2_with fail
   refine hw2.out.mono ?_;rintro e w' ⟨rfl,rfl⟩;go_wp2_with fail
   refine(zaU _ a5 (by omega) _).mono ?_;rintro e w' ⟨B1,d1,l1,rfl,h⟩;go_wp2;go_ret;exact⟨B1,d1,l1,rfl,h⟩
  ·exact zfg ha hb hl hm h1 h2 (by omega)
 ·exact zfg ha hb hl hm h1 h2 (by omega)
end Go.Proofs.YtpcgfpmiphiacaaGreat

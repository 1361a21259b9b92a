import Derived.Test.YtpcgfpmiphiacaaGreatC19
set_option maxHeartbeats 8000000
set_option linter.unusedVariables false
set_option linter.unusedSimpArgs false
namespace Go.Proofs.YtpcgfpmiphiacaaGreat
open List (ext_getElem length_drop getElem?_drop length_set)
variable {R b x za:Int} {ys:List (Int×Int)} {m:List (List Int)} {cs t zs:List Int} {vs:List Value} {c i j k n o q s:Nat} {A DB SB:Option Addr} {T:TypeId} {w w' w0 w1:World}
section
open La
def fB(m:List (List Int))(s i j:Nat):Int:=E (ent m) s (s+i) (s+j)
def fL(m:List (List Int))(s:Nat)(t:List Int):Int:=zt t.length fun j=>fB m s 0 (j+1)*t.getD j 0
def fC(m:List (List Int))(s:Nat)(t:List Int):Int:=zt t.length fun i=>t.getD i 0*zt t.length fun j=>fB m s (i+1) (j+1)*t.getD j 0
theorem zhV(m:List (List Int))(s:Nat)(t:List Int):fL m s t=ZW (E (ent m) s s) (s+1) t:=by
 rw[JZ];refine qi fun j _=>?_
 unfold fB;grind
theorem zou(m:List (List Int))(s:Nat)(t:List Int):fL m s t=lE (ent m) s (0::t):=by
 rw[zhV];unfold lE;rw[ZW,Int.mul_zero,Int.zero_add]
theorem zov(m:List (List Int))(s:Nat)(t:List Int):fC m s t=qE (ent m) s (0::t):=by
 unfold qE jJ;rw[ZW,Int.mul_zero,Int.zero_add,JZ];refine qi fun i _=>?_
 rw[ZW,Int.mul_zero,Int.zero_add,JZ];unfold fB;grind
theorem zow(hr:RedOK m)(hs:s<m.length)(b:Int)(t:List Int)(ht:t.length=m.length-1-s)(h0:0<=left (ent m) b (s+1) t):
  0<=fL m s t*fL m s t-fB m s 0 0*(fC m s t-b*zB (ent m) s)/\
  ((zv (fL m s t*fL m s t-fB m s 0 0*(fC m s t-b*zB (ent m) s)).toNat:Int)-fL m s t) / fB m s 0 0=Za m b s t/\
  -(((zv (fL m s t*fL m s t-fB m s 0 0*(fC m s t-b*zB (ent m) s)).toNat:Int)+fL m s t) / fB m s 0 0)=zL m b s t/\0<fB m s 0 0:=by
 have hp:=qN hr.pos hs;have hb:fB m s 0 0=zB (ent m) (s+1):=rfl;have hd:fL m s t*fL m s t-fB m s 0 0*(fC m s t-b*zB (ent m) s)=ZK (zm m m.length) s (left (ent m) b (s+1) t):=by
  rw[zou,zov,hb,zod hr hs,ZK,qp (by omega)]
 have hl:0<zB (ent m) s:=ZV hr.pos (by omega);rw[hd];have hv:qK (zr m m.length) s t=fL m s t:=by rw[zdJ hs t ht,zhV]
 have hD:vD (zm m m.length) (s+1)=fB m s 0 0:=by rw[qp (by omega)];rfl
 refine⟨?_,?_,?_,hp⟩
 ·unfold ZK;rw[qp (by omega)];exact Int.mul_nonneg (Int.le_of_lt hl) h0
 ·unfold Za Z4 vR;grind
 ·unfold zL zY vR;grind
def ZS(m:List (List Int))(b:Int)(k:Nat)(t:List Int):List (Int×Int):=ZB (zm m m.length) (zr m m.length) m.length k (left (ent m) b (k+1) t) t
def ZE(m:List (List Int))(b:Int)(k:Nat)(t:List Int)(q:Nat):List (Int×Int):=(List.range q).flatMap fun(j:Nat)=>ZS m b k ((zL m b (k+1) t+(j:Int))::t)
theorem zen(m:List (List Int))(b:Int)(k:Nat)(t:List Int)(q:Nat):ZE m b k t (q+1)=ZE m b k t q++ZS m b k ((zL m b (k+1) t+(q:Int))::t):=by
 unfold ZE;rw[List.range_succ,List.flatMap_append,List.flatMap_singleton]
theorem zox(m:List (List Int))(b:Int)(t:List Int):ZS m b 0 t=[((m.length:Int),Za m b 0 t-zL m b 0 t+1)]:=rfl
theorem zhW(hr:RedOK m)(hk:k+1<m.length)(b:Int)(t:List Int)(ht:t.length=m.length-1-(k+1)):
  ZS m b (k+1) t=((m.length:Int)-(k+1:Nat),Za m b (k+1) t-zL m b (k+1) t+1)::ZE m b k t (Z9 m b (k+1) t):=by
 unfold ZS ZE Z9;rw[ZB];congr 1
 refine congrArg (fun F=>List.flatMap F _) ?_;funext j
 rw[QG hr (by omega) b t ht];rfl
def Zx(cs:List Int)(ys:List (Int×Int)):List Int:=(List.range cs.length).map fun i=>cs.getD i 0+zW ys i
theorem zcu(cs:List Int)(ys:List (Int×Int)):(Zx cs ys).length=cs.length:=by simp[Zx]
theorem zoy(h:i<cs.length):(Zx cs ys).getD i 0=cs.getD i 0+zW ys i:=by
 simp[Zx,h]
theorem zeo(cs:List Int):Zx cs []=cs:=by
 apply ext_getElem
 ·exact zcu _ _
 ·intro i h1 h2;simp[Zx,zW,h2]
theorem zhX(cs:List Int)(a b:List (Int×Int)):Zx (Zx cs a) b=Zx cs (a++b):=by
 unfold Zx;simp only[List.length_map,List.length_range];refine List.map_congr_left fun i hi=>?_
 rw[zdP];grind
theorem zhY(h:∀p∈ys,1<=p.1/\p.1<=(cs.length:Int)):(Zx cs ys).sum=cs.sum+zJ ys:=by
 unfold Zx;rw[zg2 (List.range cs.length) (fun i=>cs.getD i 0) (zW ys),zdR _ _ h];congr 2
 apply ext_getElem
 ·simp
 grind
theorem zoz{z:Int}(h:i<cs.length):Zx cs [((i:Int)+1,z)]=cs.set i (cs.getD i 0+z):=by
 apply ext_getElem
 ·simp[Zx]
 ·intro j h1 h2;simp only[Zx,zW];grind
theorem zep(hr:RedOK m)(hb:0<=b)(hb1:b<1073741824)(hk:k<m.length)(ht:t.length=m.length-1-k)(h0:0<=left (ent m) b (k+1) t):∀p∈ZS m b k t,0<=p.2/\1<=p.1/\p.1<=(m.length:Int):=zdQ hr hb hb1 k t hk ht h0
theorem zoA(hr:RedOK m)(hb:0<=b)(hb1:b<1073741824)(hk:k+1<m.length)(ht:t.length=m.length-1-(k+1))(h0:0<=left (ent m) b (k+2) t)(hq:q<=Z9 m b (k+1) t):∀p∈ZE m b k t q,0<=p.2/\1<=p.1/\p.1<=(m.length:Int):=fun p hp=>by
 unfold ZE at hp;rw[List.mem_flatMap]at hp;obtain⟨j,hj,hp⟩:=hp;rw[List.mem_range]at hj;exact zep hr hb hb1 (by omega) (by grind) (jZ hr t (by omega) ht h0 (j:=j) (by unfold Z9 Za zL at hq;unfold Zc;omega)) p hp
theorem zhZ(h:∀p∈ys,0<=p.2):0<=zJ ys:=by
 induction ys with
 |nil=>exact Int.le_refl _
 |cons p ys ih=>
  have:=h p (by simp);have:=ih (fun q hq=>h q (by grind));simp only[zJ];omega
theorem zoB(hr:RedOK m)(hb:0<=b)(hb1:b<1073741824)(hk:k+1<m.length)(ht:t.length=m.length-1-(k+1))(h0:0<=left (ent m) b (k+2) t){p:Nat}(hpq:p<=q)(hq:q<=Z9 m b (k+1) t):zJ (ZE m b k t p)<=zJ (ZE m b k t q):=by
 induction q with
 |zero=>grind
 |succ q ih=>
  rcases Zl p (q+1) with h|h
  ·rw[zen,zdO];have h2:=zhZ (fun p hp=>(zep hr hb hb1 (b:=b) (k:=k) (t:=(zL m b (k+1) t+(q:Int))::t) (by omega) (by grind) (jZ hr t (by omega) ht h0 (j:=q) (by unfold Z9 Za zL at hq;unfold Zc;omega)) p hp).1);omega
  grind
theorem zeq(hr:RedOK m)(hb:0<=b)(hb1:b<1073741824)(hk:k<m.length)(ht:t.length=m.length-1-k)(h0:0<=left (ent m) b (k+1) t):
  0<=Za m b k t-zL m b k t+1/\Za m b k t-zL m b k t+1<=1099511627776/\-1099511627776<=zL m b k t/\zL m b k t<=1099511627776/\-1099511627776<=Za m b k t/\Za m b k t<=1099511627776:=by
 have hv:=JQ (hr.num hb hb1) (jL hr hb hb1 t k hk ht h0);have he:=JP (hr.num hb hb1) (jL hr hb hb1 t k hk ht h0);have hS:=jX (hr.num hb hb1) (jL hr hb hb1 t k hk ht h0);have hR:=jW (hr.num hb hb1) (jL hr hb hb1 t k hk ht h0);unfold Za zL;unfold Zc at hv;grind
def ysR(m:List (List Int))(b:Int):Nat->List Int->List (Int×Int)
 |0,_=>[]
 |k+1,t=>ZE m b k t (Z9 m b (k+1) t)
theorem zoC(hr:RedOK m)(hk:k<m.length)(b:Int)(t:List Int)(ht:t.length=m.length-1-k):
  ZS m b k t=((m.length:Int)-(k:Nat),Za m b k t-zL m b k t+1)::ysR m b k t:=by
 cases k with
 |zero=>rfl
 |succ k=>exact zhW hr hk b t ht
theorem zoD(hr:RedOK m)(h1:m.length=1)(hb:0<=b):zL m b 0 []=-((zv (b / ent m 0 0).toNat:Nat):Int)/\Za m b 0 []=((zv (b / ent m 0 0).toNat:Nat):Int):=by
 have zsc:1<=ent m 0 0:=by
  have:=ZV hr.pos (k:=1) (by omega);have e:zB (ent m) 1=ent m 0 0:=rfl;omega
 obtain⟨hin,zta⟩:=zdt zsc hb;have key:∀c:Int,(zL m b 0 []<=c/\c<=Za m b 0 [])↔ent m 0 0*c*c<=b:=fun c=>by
  have h:=jY hr (k:=0) (by omega) (za:=b) [] (by simp[h1]) (by have:=JU hr hb;grind) c;refine h.trans ?_;rw[jK (qh hr.small) b [c] (by simp[h1])];have e:zg m [c]=ent m 0 0*c*c:=by
   rw[zbf (qh hr.small) _ (by simp[h1])];simp[qE,jJ,ZW,E,ent]
  rw[e];omega
 obtain⟨r,hrr⟩:∃r:Nat,zv (b / ent m 0 0).toNat=r:=⟨_,rfl⟩;rw[hrr]at hin zta|-
 have a1:ent m 0 0*(r:Int)*r<=b:=by
  by_cases h0:r=0
  ·grind
  ·exact hin r (by omega) (by omega)
 have a2:ent m 0 0*(-(r:Int))*(-(r:Int))<=b:=by grind
 have a3:¬ent m 0 0*(-((r:Int)+1))*(-((r:Int)+1))<=b:=by grind
 have b1:=(key r).2 a1;have b2:=(key (-(r:Int))).2 a2;have b3:¬(zL m b 0 []<=-((r:Int)+1)/\-((r:Int)+1)<=Za m b 0 []):=fun h=>a3 ((key (-((r:Int)+1))).1 h)
 have b4:¬(zL m b 0 []<=(r:Int)+1/\(r:Int)+1<=Za m b 0 []):=fun h=>(show ¬ent m 0 0*((r:Int)+1)*((r:Int)+1)<=b by omega) ((key ((r:Int)+1)).1 h)
 grind
theorem zh0(hr:RedOK m)(hb:0<=b):qz (zm m m.length) (zr m m.length) m.length b=ZS m b (m.length-1) []:=by
 unfold qz;by_cases h1:m.length=1
 ·have e:vD (zm m m.length) 1=ent m 0 0:=by rw[qp (by omega)];rfl
  obtain⟨a1,a2⟩:=zoD hr h1 hb;have:ZS m b (m.length-1) []=[((m.length:Int),Za m b 0 []-zL m b 0 []+1)]:=by rw[show m.length-1=0 by omega];rfl
  grind
 ·rw[if_neg h1,zgZ hr];rfl
theorem zoE(hr:RedOK m)(hb:0<=b):ZX m b=zJ (ZS m b (m.length-1) []):=by
 unfold ZX;rw[zh0 hr hb]
theorem zh1(hr:RedOK m)(hb:0<=b):qu m b=Zx (List.replicate m.length 0) (ZS m b (m.length-1) []):=by
 unfold qu Zx;rw[zh0 hr hb,List.length_replicate];simp_all
end
section
open Go.RowKit
open La
theorem Arr.drop{b:Nat}{e:TypeId}(h:Arr w (some ⟨b,o,none⟩) e vs)(k:Nat):Arr w (some ⟨b,o+k,none⟩) e (vs.drop k):=fun h0=>by
 obtain⟨b',o',cs,fr,hA,hb,hc⟩:=h (by rw[length_drop]at h0;omega);injection hA with hA
 injection hA with h1 h2
 subst h1 h2;refine⟨_,_,cs,fr,rfl,hb,fun j u hu=>?_⟩;rw[getElem?_drop]at hu;have:=hc _ _ hu;rwa [<-Nat.add_assoc]at this
theorem IntsV.drop{b:Nat}(h:IntsV w (some ⟨b,o,none⟩) zs)(k:Nat):IntsV w (some ⟨b,o+2*k,none⟩) (zs.drop k):=by
 obtain⟨vs,h1,h2,h3⟩:=h;refine⟨vs.drop (2*k),by rw[length_drop,length_drop,h1];omega,h2.drop _,fun i z hz=>?_⟩;rw[getElem?_drop]at hz;obtain⟨g,B,n,c,a1,a2,a3⟩:=h3 _ z hz;refine⟨g,B,n,c,?_,?_,a3⟩
 ·rw[getElem?_drop,show 2*k+i*2=(k+i)*2 by omega];exact a1
 ·rw[getElem?_drop,show 2*k+(i*2+1)=(k+i)*2+1 by omega];exact a2
def zh2(w:World)(l:List Int)(e:Ending)(w':World):Prop:=∃A c,e= .returned (.slice A l.length c)/\Ints w' A 2 .i64 l/\l.length<=c/\c<=9223372036854775807/\Step w w'
theorem zh3(x:Int)(h:Ints w0 A 2 .i64 t)(h1:t.length<=1000)[hx:Ext w0 w]:
  Cq 90 #[.int .i64 x,.slice A t.length c] w (zh2 w (x::t)):=by
 have h0:=h.ext hx;unfold zh2;go_enter Tryz.func90,Tryz.ntmps90;go_wp2_with (at_builtin;refine zM _ rfl _ _ 35 rfl w.heap.size 2 (.int .i64 0) 1 8 Tryz.underlying35 Qb rfl (by omega) (by omega) (some ⟨w.heap.size,0,none⟩) 1 1 [.int .i64 x] rfl (Own.new w 2 1 1 #[.int .i64 x] rfl (by omega)) _ t.length c (t.map (Value.int .i64)) rfl (h0.ext Zi) (by simp) zaV (by omega) (by simp) ?_;intro A1 c1 w1 zr5 hg)
 go_ret;have hxx:Ext w w1:=hg.ext Zi Zr;have hc:=zr5.cap;refine⟨A1,c1,?_,?_,by omega,hc.2,hxx.toStep⟩
 ·show Ending.returned (Value.slice A1 (1+t.length) c1)=_;rw[Nat.add_comm]
 exact zr5.arr
theorem zoF{B:Option Addr}{d:Nat}{x:List Int}(hM:MatV w0 A m)(hX:IntsV w1 B x)(h1:m.length=n)(h3:1<=n)(h4:n<=16)(hn:AllLen m n)(hxl:x.length=n)(hk:k<=100000000000)(hbm:∀i j,Bd k (ent m i j))(hbx:QH k x)[hx:Ext w0 w][hy:Ext w1 w]:
  Cq 165 #[.slice A n c,.slice B n d] w (zD w (zt n fun i=>x.getD i 0*(ZR m n x).getD i 0)):=by
 have h0:=hM.ext hx;have hX0:=hX.ext hy;have HAP:Hid (∀W,Ext w W->Cq 168 #[.slice A n c,.slice B n d] W (zax W (ZR m n x))):=Zh (fun W e=>by
  have:=zhR (w:=W) (c:=c) (d:=d) (k:=k) h0 hX0 (by omega) (by omega) h3 h4 hn hxl (by omega) hbm hbx;rwa [h1]at this)
 have HDT:Hid (∀(W1 W:World)(A1:Option Addr)(c1:Nat),IntsV W1 A1 (ZR m n x)->Ext W1 W->Ext w W->Cq 156 #[.slice B n d,.slice A1 n c1] W (zD W (zt n fun i=>x.getD i 0*(ZR m n x).getD i 0))):=Zh (fun W1 W A1 c1 i1 e1 e2=>
  zbm hX0 i1 hxl (by rw[zbt];exact h1) h4 (k:=2*k+n) (by omega) (fun i=>(hbx i).mono (by omega)) (zei h4 hbm hbx))
 have HAL:Hid ((ZR m n x).length=n):=Zh (by rw[zbt];exact h1);clear hbm hbx hn hxl h1 hM hX h0 hX0;generalize (zt n fun i=>x.getD i 0*(ZR m n x).getD i 0)=z at*
 generalize ZR m n x=ay at*
 go_enter Tryz.func165,Tryz.ntmps165;go_wp2_with (first
  |(go_at_call 168;refine(HAP.out _ Zi).mono ?_;rintro e w5 ⟨A5,c5,rfl,hI5,-,-,hs5⟩;have HI5:=Zh hI5;clear hI5;rw[HAL.out])
  |(go_at_call 156;refine(HDT.out _ _ _ _ HI5.out Zi Zi).mono ?_;rintro e w7 ⟨g7,B7,k7,d7,rfl,hz7,hs7⟩;have hb7:=(Zi:BlkAt w.heap.size #[.bool false,.slice none 0 0] 149 w7).eq;obtain⟨t1,t2,t3,t4,t5⟩:=zQ hb7;have tq:Typed w.heap.size 149 w7:=⟨_,_,hb7⟩;clear hb7))
 exact bodyPost_ret (v:= .agg #[.bool g7,.slice B7 k7 d7]) (by simp[results,Tryz.results165,go_sem,t1,t2]) rfl ⟨_,_,_,_,rfl,hz7.keeps,Step.of _ _⟩
def FrV(w:World)(m:List (List Int))(SB DB:Option Addr):Prop:=StV w SB ((List.range m.length).map (qj m))/\IntsV w DB (1::zu m)
theorem FrV.ext(h:FrV w m SB DB)(hx:Ext w w'):FrV w' m SB DB:=⟨h.1.ext hx,h.2.ext hx⟩
def zer(w:World)(m:List (List Int))(n:Nat)(e:Ending)(w':World):Prop:=∃SB sc DB dc,e= .returned (.agg #[.int .i64 n,.slice SB n sc,.slice DB (n+1) dc])/\FrV w' m SB DB/\n<=sc/\sc<=9223372036854775807/\n+1<=dc/\dc<=9223372036854775807/\Step w w'
theorem j4{b:Nat}{x0 x1 x2:Value}(h:w.heap[b]? =some (.cells #[x0,x1,x2] T (0,0))):(w.cell? ⟨b,0,none⟩=some x0/\w.cell? ⟨b,1,none⟩=some x1/\w.cell? ⟨b,2,none⟩=some x2)/\(w.frozen? ⟨b,0,none⟩=false/\w.frozen? ⟨b,1,none⟩=false/\w.frozen? ⟨b,2,none⟩=false)/\b<w.heap.size:=
 ⟨⟨by simp[World.cell?,h],by simp[World.cell?,h],by simp[World.cell?,h]⟩,⟨by simp[World.frozen?,h],by simp[World.frozen?,h],by simp[World.frozen?,h]⟩,zF h⟩
theorem FrV.oth(h:FrV w m SB DB)(ho:Oth T w w')(h3:79≠T)(h0:94≠T)(h1:149≠T)(h2:271≠T):FrV w' m SB DB:=⟨h.1.oth ho h3 h0 h1 h2,h.2.oth ho h1 h2⟩
theorem Oth.set3{b:Nat}{cs:Array Value}(hp:w.heap[b]? =some (.cells cs T (0,0)))(i j k:Nat)(u v x:Value):Oth T w (((w.setCell ⟨b,i,none⟩ u).setCell ⟨b,j,none⟩ v).setCell ⟨b,k,none⟩ x):=
 (Oth.set2 hp i j u v).trans (Oth.set (p:=⟨b,k,none⟩) (Zo (Zo hp _) _) _)
theorem zoG(hl:vs.length=zs.length*2)(h:∀(i:Nat)(z:Int),zs[i]? =some z->∃g B n c,vs[i*2]? =some (.bool g)/\vs[i*2+1]? =some (.slice B n c)/\IntV w g B n c z):∀u∈vs,u.oneCell'=true:=fun u hu=>by
 obtain⟨j,hj⟩:=List.getElem?_of_mem hu;have hjl:=(Zg.1 hj).1;have hi:j / 2<zs.length:=by omega
 obtain⟨g,B,n,c,a1,a2,-⟩:=h (j / 2) zs[j / 2] (Ze hi);rcases Nat.mod_two_eq_zero_or_one j with e|e
 ·rw[show j / 2*2=j by omega,hj]at a1;injection a1 with a1
  rw[a1];rfl
 ·rw[show j / 2*2+1=j by omega,hj]at a2;injection a2 with a2
  rw[a2];rfl
theorem zh4(h:MatA w0 A m)(hL:LLLed m)(h1:m.length=n)[hx:Ext w0 w]:
  Cq 44 #[.slice A n c] w (zer w m n):=by
 have h8:=hL.len8;have h3:=hL.len1;have HOF:Hid (∀W,Ext w0 W->Cq 32 #[.slice A n c] W (jx W m)):=Zh (fun W e=>by
  have:=(zce (w:=W) (c:=c) h m.length h3 (by omega) h3 (by omega) hL.all hL.fits).mono fun _ _ h=>h.mat
  rwa [h1]at this)
 have zr9:AllLen m n:=by rw[<-h1];exact hL.all
 have zsc:Pos (zh (ent m)) n:=by rw[<-h1];exact hL.pos
 have HST:Hid (∀(W1 W:World)(A1:Option Addr)(c1:Nat),MatV W1 A1 m->Ext W1 W->Cq 86 #[.slice A1 n c1] W (zcs W m)):=Zh (fun W1 W A1 c1 hM e=>zot hM h1 (by omega) (by omega) zr9 hL.bd (by omega) (by omega) zsc);have HLE:Hid (∀(W1 W:World)(A1:Option Addr)(c1:Nat),MatV W1 A1 m->Ext W1 W->Cq 87 #[.slice A1 n c1] W (zax W (zu m))):=Zh (fun W1 W A1 c1 hM e=>zbo hM h1 (by omega) (by omega) zr9 hL.bd (by omega) (by omega))
 have HLL:Hid ((zu m).length=n):=Zh (by rw[QI];exact h1);have HSM:=Zh (fun W=>Qf 1 (by omega) (by omega) W);unfold jx at HOF;unfold zcs at HST;rw[h1]at HOF HST h3 h8;have H1:=Zh h1;clear h1 zr9 zsc hL h;go_enter Tryz.func44,Tryz.ntmps44;go_wp2_with (first
  |(go_at_call 32;refine(HOF.out _ Zi).mono ?_;rintro e w3 ⟨A3,c3,rfl,hM3,-,-,hs3⟩;have HM3:=Zh hM3;clear hM3)
  |(go_at_call 86;refine(HST.out _ _ _ _ HM3.out Zi).mono ?_;rintro e w4 ⟨SB,sc,rfl,hS4,zxd,zxe,hs4⟩;have HS4:=Zh hS4;clear hS4)
  |(go_at_call 87;refine(HLE.out _ _ _ _ HM3.out Zi).mono ?_;rintro e w5 ⟨B5,d5,rfl,hI5,hd1,hd2,hs5⟩;have HI5:=Zh hI5;clear hI5;rw[HLL.out]at hd1|-)
  |(go_at_call 88;refine(HSM.out _).mono ?_;rintro e w6 ⟨g6,B6,k6,e6,rfl,hz6,hs6⟩;have HZ6:=Zh hz6;clear hz6)
  |(at_builtin;obtain⟨vs,v1,v2,v3⟩:=HI5.out;have HV1:=Zh v1;have HV3:=Zh v3;have hv1:vs.length=n*2:=(by rw[v1,HLL.out]);go_loud (refine zM _ rfl _ _ 94 rfl w6.heap.size 149 (.agg #[.bool false,.slice none 0 0]) 2 32 Tryz.underlying94 jd rfl (by omega) (by omega) (some ⟨w6.heap.size,0,none⟩) 1 1 [.bool g6,.slice B6 k6 e6] rfl (Own.new w6 149 2 1 #[.bool g6,.slice B6 k6 e6] rfl (by omega)) _ n d5 vs rfl (v2.ext Zi) hv1 (zoG v1 v3) (by omega) (by simp) ?_);intro A7 c7 w7 zr5 hg;have HO7:=Zh zr5;have hbk:w7.heap[w.heap.size]? =some (.cells #[.int .i64 0,.slice none 0 0,.slice none 0 0] 96 (0,0)):=hg.heap (zj (Zi:Ext (w.alloc (.cells #[.int .i64 0,.slice none 0 0,.slice none 0 0] 96)) (w6.alloc (.cells #[.bool g6,.slice B6 k6 e6] 149))) (heap_alloc_new w _)) (by decide);have HG7:=Zh hg;have HBK:=Zh hbk;obtain⟨⟨a0,a1,a2⟩,⟨f0,f1,f2⟩,a4⟩:=j4 hbk;have tq:Typed w.heap.size 96 w7:=⟨_,_,hbk⟩;clear hbk hg zr5 v1 v2 v3 hv1))
 have hx7:Ext w w7:=HG7.out.ext Zi (by have:=(Zi:Ext w w6).size;omega);have hxl:Ext w6 (w6.alloc (.cells #[.bool g6,.slice B6 k6 e6] 149)):=Zi;have hI7:IntsV w7 A7 (1::zu m):=by
  refine⟨[.bool g6,.slice B6 k6 e6]++vs,by simp[HV1.out];omega,HO7.out.arr,fun i z hz=>?_⟩
  cases i with
  |zero=>
   simp only[List.getElem?_cons_zero]at hz;injection hz with hz
   subst hz;exact⟨g6,B6,k6,e6,rfl,rfl,(HZ6.out.ext hxl).grow HG7.out (by decide)⟩
  |succ i=>
   simp only[List.getElem?_cons_succ]at hz;obtain⟨g,B,nn,c,b1,b2,b3⟩:=HV3.out i z hz;refine⟨g,B,nn,c,?_,?_,((b3.ext (Zi:Ext w5 w6)).ext hxl).grow HG7.out (by decide)⟩
   ·rw[show (i+1)*2=i*2+2 by omega];exact b1
   ·rw[show (i+1)*2+1=i*2+1+2 by omega];exact b2
 have hS7:StV w7 SB ((List.range m.length).map (qj m)):=by
  rw[H1.out];exact(HS4.out.ext (Zi:Ext w4 w6)).ext (HG7.out.ext hxl Zr)
 have hc7:=HO7.out.cap;refine bodyPost_ret (v:= .agg #[.int .i64 n,.slice SB n sc,.slice A7 (1+n) c7]) (by simp[results,Tryz.results44,go_sem,a0,a1,a2]) rfl ⟨SB,sc,A7,c7,by rw[Nat.add_comm],?_,zxd,zxe,by omega,hc7.2,Step.of _ _⟩;exact FrV.oth ⟨hS7,hI7⟩ (Oth.set3 HBK.out 0 1 2 _ _ _) (by decide) (by decide) (by decide) (by decide)
end
section
open Go.RowKit
structure SqI(x:Int)(j:Nat)(R:Int):Prop where
 r0:0<=R
 low:R*R<=x
 high:x<(R+2^j)*(R+2^j)
 dvd:∃Q,R=Q*2^j
theorem SqI.keep(h:SqI x (j+1) R)(hl:(R+2^j)*(R+2^j)<=x):SqI x j (R+2^j):=by
 obtain⟨Q,hQ⟩:=h.dvd;have hp:(0:Int)<2^j:=Int.pow_pos (by decide);have h2:(2:Int)^(j+1)=2^j*2:=Int.pow_succ ..;refine⟨by have:=h.r0;omega,hl,?_,⟨2*Q+1,?_⟩⟩
 ·have:=h.high;rw[h2]at this;rwa [show R+2^j*2=R+2^j+2^j by omega]at this
 ·rw[hQ,h2];grind
theorem SqI.drop(h:SqI x (j+1) R)(hl:x<(R+2^j)*(R+2^j)):SqI x j R:=
 ⟨h.r0,h.low,hl,by obtain⟨Q,hQ⟩:=h.dvd;exact⟨2*Q,by rw[hQ,Int.pow_succ];grind⟩⟩
theorem SqI.start{L:Nat}(h0:0<=x)(h:x<(4294967296:Int)^n)(hL:n<=2*L):SqI x (32*L) 0:=by
 refine⟨Int.le_refl _,by omega,?_,⟨0,by omega⟩⟩;have e:(0+(2:Int)^(32*L))*(0+2^(32*L))=(4294967296:Int)^(2*L):=by
  rw[Int.zero_add,<-Int.pow_add,zaq];congr 1;omega
 rw[e];exact Int.lt_of_lt_of_le h (J9 hL)
theorem SqI.done(h:SqI x 0 R):0<=R/\R*R<=x/\x<(R+1)*(R+1):=⟨h.r0,h.low,h.high⟩
structure SqM(w wr:World)(g L:Nat)(x:Int)(j:Nat)(R:Int)(p:List Int):Prop where
 sq:SqI x j R
 len:p.length=L
 limbs:Limbs p
 q:val p=R
 row:Row wr g 271 .u32 p
 ext:Ext w wr
theorem zoH{q0:Int}(h0:0<=q0)(hs:s<32)(hz:q0%2^(s+1)=0)(h2:q0+2^s<4294967296):bits .andNot .u32 (q0+2^s) (2^s%4294967296)=q0:=by
 have hp:(2:Nat)^s<2^32:=Nat.pow_lt_pow_right (by omega) hs;have hp2:((2^s:Nat):Int)=(2:Int)^s:=by simp
 have hp1:((2^(s+1):Nat):Int)=(2:Int)^(s+1):=by simp
 have e1:(2:Int)^s%4294967296=2^s:=Int.emod_eq_of_lt (Int.le_of_lt (Int.pow_pos (by decide))) (by omega);obtain⟨n,rfl⟩:∃n:Nat,q0=n:=⟨q0.toNat,by omega⟩;have hn:n%2^(s+1)=0:=by
  have:((n%2^(s+1):Nat):Int)=0:=by rw[Int.natCast_emod,hp1];exact hz
  omega
 have ho:=zdU n s hn;rw[e1,<-hp2,<-Int.natCast_add,u32_andNot_nat _ _ (by omega) (by omega),<-ho];congr 1
 apply Nat.eq_of_testBit_eq;intro i;have e2:4294967295-2^s=2^32-(2^s+1):=by omega
 rw[e2,Nat.testBit_and,Nat.testBit_or,Nat.testBit_two_pow_sub_succ hp,Nat.testBit_two_pow];by_cases e:s=i
 ·subst e;have hb:n.testBit s=false:=by
   rw[Nat.testBit_eq_decide_div_mod_eq];obtain⟨a,ha⟩:=Nat.dvd_of_mod_eq_zero hn;rw[Nat.pow_succ,Nat.mul_assoc]at ha;rw[ha,Nat.mul_div_cancel_left _ (Nat.pow_pos (by omega))];simp
  simp[hb]
 ·simp only[e,decide_false,Bool.or_false,Bool.not_false,Bool.and_true];by_cases hi:i<32
  ·simp[hi]
  ·have:n.testBit i=false:=Nat.testBit_lt_two_pow (Nat.lt_of_lt_of_le (show n<2^32 by omega) (Nat.pow_le_pow_right (by omega) (by omega)));simp[this]
def zoI(w:World)(x:Int)(e:Ending)(w':World):Prop:=∃g B k d r,e= .returned (.tuple #[.agg #[.bool g,.slice B k d],.bool true])/\IntV w' g B k d r/\0<=r/\r*r<=x/\x<(r+1)*(r+1)/\Step w w'
set_option maxRecDepth 20000 in
theorem zoJ{na:Bool}(ha:IntV w0 na A n c x)(h0:0<=x)(h1:n<=1000000)[hx:Ext w0 w]:
  Cq 160 #[.agg #[.bool na,.slice A n c]] w (zoI w x):=by
 have hsg:=fun W(hh:Ext w0 W)=>QT (w:=W) ha (by omega)
 have htr:=fun W(hh:Ext w0 W)=>jy (w:=W) ha (by omega)
 have HS:=Zh hsg;have HT:=Zh htr;have HA:=Zh ha;have hc0:decide (zk x 0<0)=false:=by unfold zk;split<;>(try split)<;>simp<;>omega
 have HL:Hid (∀(W:World)B k d,NatV W B k d (x.natAbs:Int)->k<=n/\x<(4294967296:Int)^k):=Zh (fun W B k d hN=>by
  obtain⟨l,rfl,a1,a2,a3,a4,a5,a6⟩:=hN;obtain⟨l',e',b2,b3,b4,-⟩:=ha;refine⟨zbM a2 a3 (by rw[a4,<-b4,e'];exact qd b2),?_⟩;have:=qd a2;rw[a4]at this;omega)
 obtain⟨cs,hcs⟩:=Xz (zk x 0);rw[<-hcs]at hc0 HS;have HN:Hid (n<=1099511627776):=Zh (by omega);clear hsg htr ha hcs;go_enter Tryz.func160,Tryz.ntmps160;go_wp2_with (go_at_call 150;refine(HS.out _ Zi).mono ?_;rintro e w1 ⟨rfl,hs1⟩;obtain⟨q1,q2⟩:=QQ w w1 (.bool na) (.slice A n c) 149)
 refine(HT.out _ Zi).mono ?_;rintro e w2 ⟨B2,k2,d2,rfl,hN2,hs2⟩;obtain⟨hk1,hk2⟩:=HL.out _ _ _ _ hN2;obtain⟨L,hLd⟩:=Xz ((k2+1) / 2);have hL2:k2<=2*L:=by omega
 have hLn:L<=1000000:=by omega
 have hST:=Zh (SqI.start h0 hk2 hL2);have hmk:=ja (P:=Tryz.prog) Tryz.underlying147 Tryz.infoU32 (by omega) (L:Int) (by omega) (by omega);have hkb:k2<=1000000:=by omega
 simp only[Int.toNat_natCast]at hmk;have HMK:=Zh hmk;have HLD:Hid (((k2:Int)+1) / 2=(L:Int)):=Zh (by omega);have zyl:IntKind.i64.wrap (32*(L:Int))=32*(L:Int):=by rw[IntKind.wrap_i64];omega
 clear hN2 hk2 hL2 hLd hk1 h1 hmk;go_wp2_with fail
 rw[HLD.out,HMK.out];go_wp2_with fail
 have zsQ:Ext w w2:=Zi;go_loopw [6] (fun i wr=>∃(j:Nat) (R:Int) (p:List Int),j<=32*L/\i= .int .i64 ((j:Int)-1)/\Hid (SqM w2 wr w2.heap.size L x j R p)) (fun i _=>(intOf i+1).toNat)
 case atStart=>
  refine⟨32*L,0,List.replicate L 0,by omega,by simp,Zh ⟨hST.out,by simp,?_,by rw[zbQ],Row.made w2 _ _ _,Zi⟩⟩;intro y hy;rw[List.eq_of_mem_replicate hy];omega
 case round=>
  obtain⟨j,R,p,hj,rfl,HD⟩:=hrel
  cases j with
  |zero=>
   obtain⟨d1,d2,d3⟩:=HD.out.sq.done;have hvq:=HD.out.q;have hT:=fun W(hh:Ext wr W)=>JM (w:=W) (c:=L) false HD.out.row.ints HD.out.limbs (by rw[HD.out.len];omega) (by omega) (by rw[HD.out.len];omega)
   rw[hvq,HD.out.len]at hT;have HT2:Hid (∀W,Ext wr W->Cq 181 #[.bool false,.slice (some ⟨w2.heap.size,0,none⟩) L L] W (zD W R)):=Zh hT;have HXE:=Zh HD.out.ext;have HDN:=Zh (And.intro d1 (And.intro d2 d3));have hxq:Ext ((w.alloc (.cells #[.bool na,.slice A n c] 149)).alloc (.cells #[.bool false,.slice none 0 0] 149)) wr:=(Zi:Ext ((w.alloc (.cells #[.bool na,.slice A n c] 149)).alloc (.cells #[.bool false,.slice none 0 0] 149)) w2).trans HXE.out
   clear hT hvq d1 d2 d3 HD;have HBK:Hid (∀W,Ext wr W->W.heap[w.heap.size+1]? =some (.cells #[.bool false,.slice none 0 0] 149 (0,0))):=Zh (fun W e=>zj (hxq.trans e) (by
    have:=heap_alloc_new (w.alloc (.cells #[.bool na,.slice A n c] 149)) (.cells #[.bool false,.slice none 0 0] 149);simpa using this))
   have hx1:Ext w wr:=zsQ.trans HXE.out;go_wp2_with (go_at_call 181;refine(HT2.out _ Zi).mono ?_;rintro e w3 ⟨g3,B3,k3,d3,rfl,hz3,hs3⟩;have hb7:=HBK.out w3 Zi;obtain⟨t1,t2,t3,t4,t5⟩:=zQ hb7;have tq:Typed (w.heap.size+1) 149 w3:=⟨_,_,hb7⟩;clear hb7)
   have zym:Ext w w3:=hx1.trans Zi;exact bodyPost_ret (v:= .tuple #[.agg #[.bool g3,.slice B3 k3 d3],.bool true]) (by simp[results,Tryz.results160,go_sem,t1,t2]) rfl ⟨_,_,_,_,R,rfl,hz3.keeps,HDN.out.1,HDN.out.2.1,HDN.out.2.2,Step.of _ _⟩
  |succ i=>
   rw[show ((i+1:Nat):Int)-1=(i:Int) by omega];obtain⟨q0,hq0,hcq⟩:=HD.out.row.cell (i:=i / 32) (by rw[HD.out.len];omega);have hq':=HD.out.limbs.get hq0;obtain⟨Q,hQ⟩:=HD.out.sq.dvd;have hz:=zg8 HD.out.limbs hq0 (s:=i%32) (by omega) (Q:=Q) (by rw[HD.out.q,hQ];congr 2;omega);obtain⟨o1,o2⟩:=zg9 hq'.1 hq'.2 (s:=i%32) (by omega) hz;have an:=zoH hq'.1 (s:=i%32) (by omega) hz o2;have hfq:=HD.out.row.frozen (i / 32)
   have zvN:val (p.set (i / 32) (q0+2^(i%32)))=R+2^i:=by
    rw[zab hq0,HD.out.q,show q0+2^(i%32)-q0=2^(i%32) by omega,zaq,<-Int.pow_add,show 32*(i / 32)+i%32=i by omega]
   have zvO:Limbs (p.set (i / 32) (q0+2^(i%32))):=HD.out.limbs.set _ (by have:=Int.pow_pos (n:=2) (m:=i%32) (by decide);omega) o2;have HB:=Zh (And.intro hq0 (And.intro zvN zvO));have HAN:=Zh an;have HOR:=Zh o1;have ztP:=HD.out.row.lt;obtain⟨a,hai⟩:=Yz (i / 32);obtain⟨s,hsi⟩:=Yz (i%32);rw[hai,hsi]at HB;rw[hsi]at HAN HOR;rw[hai]at hcq hfq;have hia:(i:Int) / 32=(a:Int):=by omega
   have his:(i:Int)%32=(s:Int):=by omega
   have htd:Int.tdiv (i:Int) 32=(a:Int):=by rw[Int.tdiv_eq_ediv_of_nonneg (by omega)];exact hia
   have htm:Int.tmod (i:Int) 32=(s:Int):=by rw[Int.tmod_eq_emod_of_nonneg (by omega)];exact his
   have ha0:(0:Int)<=(a:Int):=by omega
   have ha1:(a:Int)<(L:Int):=by omega
   have hs0:(0:Int)<=(s:Int):=by omega
   have zu0:(s:Int)<32:=by omega
   have hwa:IntKind.i64.wrap (a:Int)=(a:Int):=by rw[IntKind.wrap_i64];omega
   have hws:IntKind.i64.wrap (s:Int)=(s:Int):=by rw[IntKind.wrap_i64];omega
   clear hq0 hai hsi hia his o1 o2 an zvN zvO hz hQ hq';go_wp2_with fail
   go_region_law fail
   go_wp2_with fail
   rw[HOR.out];have hdr:∀W:World,Ext W W.drew:=fun W=>Zi
   have zvP:=(HD.out.row.set a (q0+2^s)).ext (hdr _);have hxs:Ext w2 (wr.setCell ⟨w2.heap.size,a,none⟩ (.int .u32 (q0+2^s))).drew:=(HD.out.ext.setCell (p:=⟨w2.heap.size,a,none⟩) Zr _).trans (hdr _);generalize (wr.setCell ⟨w2.heap.size,a,none⟩ (.int .u32 (q0+2^s))).drew=ws at*
   have HR1:=Zh zvP;have HSQ:=Zh HD.out.sq;have HLP:=Zh HD.out.len;have HLM:=Zh HD.out.limbs;have HQP:=Zh HD.out.q;have zrt:Hid (∀W,Ext ws W->Cq 181 #[.bool false,.slice (some ⟨w2.heap.size,0,none⟩) L L] W (zD W (R+2^i))):=Zh (fun W e=>by
    have hl:(p.set a (q0+2^s)).length=L:=by rw[length_set];exact HLP.out
    have:=JM (w:=W) (c:=L) false HR1.out.ints HB.out.2.2 (by omega) (by omega) (by omega);rw[HB.out.2.1,hl]at this;exact this)
   have HK4:Hid (∀(W:World)g B k d,IntV W g B k d (R+2^i)->k<=L):=Zh (fun W g B k d h=>h.len (by
    have h1:=qd HB.out.2.2;have h2:=Ql HB.out.2.2;rw[length_set,HLP.out,HB.out.2.1]at h1;rw[HB.out.2.1]at h2;omega))
   have HK5:Hid (∀(W:World)g B k d,IntV W g B k d ((R+2^i)*(R+2^i))->k<=2*L):=Zh (fun W g B k d h=>h.len (by
    have h1:=qd HB.out.2.2;have h2:=Ql HB.out.2.2;rw[length_set,HLP.out,HB.out.2.1]at h1;rw[HB.out.2.1]at h2;rw[show 2*L=L+L by omega,Int.pow_add];have h3:=Int.mul_lt_mul h1 (Int.le_of_lt h1) (by have h5:=HSQ.out.r0;have h6:=Int.pow_pos (n:=2) (m:=i) (by decide);omega) (by omega);have h4:=Int.mul_nonneg h2 h2;omega))
   have HMU:Hid (∀(W0 W:World)g B k d,IntV W0 g B k d (R+2^i)->Ext W0 W->Cq 158 #[.agg #[.bool g,.slice B k d],.agg #[.bool g,.slice B k d]] W (zD W ((R+2^i)*(R+2^i)))):=Zh (fun W0 W g B k d h e=>by
    have:=HK4.out _ _ _ _ _ h;exact Jf h h (by omega) (by omega))
   have HCM:Hid (∀(W0 W:World)g B k d,IntV W0 g B k d ((R+2^i)*(R+2^i))->Ext W0 W->Ext w0 W->Cq 115 #[.agg #[.bool g,.slice B k d],.agg #[.bool na,.slice A n c]] W (zy W (.int .i64 (zk ((R+2^i)*(R+2^i)) x)))):=Zh (fun W0 W g B k d h e e0=>by
    have:=HK5.out _ _ _ _ _ h;exact zai h HA.out (by omega) HN.out)
   have hxq:Ext (w.alloc (.cells #[.bool na,.slice A n c] 149)) ws:=(Zi:Ext (w.alloc (.cells #[.bool na,.slice A n c] 149)) w2).trans hxs;have hxw:Ext w ws:=zsQ.trans hxs;have hx0:Ext w0 ws:=hx.trans hxw;clear zvP;have HHI:Hid (x<(R+2^i)*(R+2^i)->SqI x i R):=Zh HSQ.out.drop;have HLO:Hid ((R+2^i)*(R+2^i)<=x->SqI x i (R+2^i)):=Zh HSQ.out.keep;generalize R+2^i=R1 at*
   clear hcq hfq;by_cases hgt:x<R1*R1
   ·have hcm:decide (0<zk (R1*R1) x)=true:=by rw[qH hgt];rfl
    generalize zk (R1*R1) x=cm at*
    have HGT:=Zh hgt;clear hgt;generalize R1*R1=RR at*
    go_wp2_with (go_at_call 181;refine(zrt.out _ Zi).mono ?_;rintro e w4 ⟨g4,B4,k4,d4,rfl,hz4,hs4⟩;obtain⟨r1,r2⟩:=QQ w w4 (.bool na) (.slice A n c) 149)
    have zs3:Ext w w4:=Zi;have zxf:Ext w0 w4:=hx.trans zs3;have HKP:Hid (∀W,Ext (w4.alloc (.cells #[.bool g4,.slice B4 k4 d4] 149)) W->W.cell? ⟨w.heap.size,0,none⟩=some (.bool na)/\W.cell? ⟨w.heap.size,1,none⟩=some (.slice A n c)/\W.cell? ⟨w4.heap.size,0,none⟩=some (.bool g4)/\W.cell? ⟨w4.heap.size,1,none⟩=some (.slice B4 k4 d4)):=Zh (fun W e=>by
     have e4:Ext w4 W:=Ext.trans Zi e;have e5:Ext (w.alloc (.cells #[.bool na,.slice A n c] 149)) W:=hxq.trans (Ext.trans Zi e4);obtain⟨a1,a2⟩:=QQ w W (.bool na) (.slice A n c) 149;obtain⟨a3,a4⟩:=QQ w4 W (.bool g4) (.slice B4 k4 d4) 149;exact⟨a1,a2,a3,a4⟩)
    go_region_held3 (fun w'=>w'.cell? ⟨w.heap.size,0,none⟩=some (.bool na)/\w'.cell? ⟨w.heap.size,1,none⟩=some (.slice A n c)/\w'.cell? ⟨w4.heap.size,0,none⟩=some (.bool g4)/\w'.cell? ⟨w4.heap.size,1,none⟩=some (.slice B4 k4 d4))
     (exact HKP.out _ Zi)
     ((first
      |(go_at_call 158;refine(HMU.out _ _ _ _ _ _ hz4 Zi).mono ?_;rintro e w5 ⟨g5,B5,k5,d5,rfl,hz5,hs5⟩)
      |(go_at_call 115;refine(HCM.out _ _ _ _ _ _ hz5 Zi Zi).mono ?_;rintro e w6 ⟨rfl,hs6⟩)))
    have hx6:Ext ws w6:=Zi;have hR6:=HR1.out.ext hx6;have hcq:w6.cell? ⟨w2.heap.size,a,none⟩=some (.int .u32 (q0+2^s)):=by
     obtain⟨y,hy,hc⟩:=hR6.cell (i:=a) (by rw[length_set,HLP.out];omega);rw[List.getElem?_set_self (by rw[HLP.out];omega)]at hy;injection hy with hy
     rw[hy];exact hc
    have hfq:=hR6.frozen a;have zyn:=hR6.lt;have zqW:Hid (∀W:World,Ext (w6.setCell ⟨w2.heap.size,a,none⟩ (.int .u32 q0)) W->SqM w2 W w2.heap.size L x i R p):=Zh (fun W e=>by
     have h1:=(hR6.set a q0).ext e;have h2:(p.set a (q0+2^s)).set a q0=p:=by
      rw[List.set_set];obtain⟨ha',he⟩:=Zg.1 HB.out.1;rw[<-he,List.set_getElem_self]
     rw[h2]at h1;exact⟨HHI.out HGT.out,HLP.out,HLM.out,HQP.out,h1,((hxs.trans hx6).setCell (p:=⟨w2.heap.size,a,none⟩) Zr _).trans e⟩)
    clear hR6;go_wp2_with fail
    go_region_law fail
    all_goals
     go_wp2_with fail
     rw[HAN.out];exact⟨⟨i,R,p,by omega,rfl,Zh (zqW.out _ Zi)⟩,by simp[intOf]<;>omega⟩
   ·have hcm:decide (0<zk (R1*R1) x)=false:=by
     unfold zk;split<;>(try split)<;>simp<;>omega
    generalize zk (R1*R1) x=cm at*
    have HGT:=Zh (show R1*R1<=x by omega);clear hgt;generalize R1*R1=RR at*
    go_wp2_with (go_at_call 181;refine(zrt.out _ Zi).mono ?_;rintro e w4 ⟨g4,B4,k4,d4,rfl,hz4,hs4⟩;obtain⟨r1,r2⟩:=QQ w w4 (.bool na) (.slice A n c) 149)
    have zs3:Ext w w4:=Zi;have zxf:Ext w0 w4:=hx.trans zs3;have HKP:Hid (∀W,Ext (w4.alloc (.cells #[.bool g4,.slice B4 k4 d4] 149)) W->W.cell? ⟨w.heap.size,0,none⟩=some (.bool na)/\W.cell? ⟨w.heap.size,1,none⟩=some (.slice A n c)/\W.cell? ⟨w4.heap.size,0,none⟩=some (.bool g4)/\W.cell? ⟨w4.heap.size,1,none⟩=some (.slice B4 k4 d4)):=Zh (fun W e=>by
     have e4:Ext w4 W:=Ext.trans Zi e;have e5:Ext (w.alloc (.cells #[.bool na,.slice A n c] 149)) W:=hxq.trans (Ext.trans Zi e4);obtain⟨a1,a2⟩:=QQ w W (.bool na) (.slice A n c) 149;obtain⟨a3,a4⟩:=QQ w4 W (.bool g4) (.slice B4 k4 d4) 149;exact⟨a1,a2,a3,a4⟩)
    go_region_held3 (fun w'=>w'.cell? ⟨w.heap.size,0,none⟩=some (.bool na)/\w'.cell? ⟨w.heap.size,1,none⟩=some (.slice A n c)/\w'.cell? ⟨w4.heap.size,0,none⟩=some (.bool g4)/\w'.cell? ⟨w4.heap.size,1,none⟩=some (.slice B4 k4 d4))
     (exact HKP.out _ Zi)
     ((first
      |(go_at_call 158;refine(HMU.out _ _ _ _ _ _ hz4 Zi).mono ?_;rintro e w5 ⟨g5,B5,k5,d5,rfl,hz5,hs5⟩)
      |(go_at_call 115;refine(HCM.out _ _ _ _ _ _ hz5 Zi Zi).mono ?_;rintro e w6 ⟨rfl,hs6⟩)))
    go_wp2_with fail
    have hx6:Ext ws w6:=Zi;exact⟨⟨i,R1,p.set a (q0+2^s),by omega,rfl,Zh ⟨HLO.out HGT.out,by rw[length_set];exact HLP.out,HB.out.2.2,HB.out.2.1,HR1.out.ext (hx6.trans Zi),hxs.trans (hx6.trans Zi)⟩⟩,by simp[intOf]<;>omega⟩
end
section
open Go.RowKit
open La
structure Bb(x:Int):Prop where
 bd:Bd 200000 x
section
variable {w1 w2 w:World} {g h:Bool} {A B:Option Addr} {n k c d:Nat} {x y:Int}
theorem zcv(ha:IntV w1 g A n c x)(hb:IntV w2 h B k d y)(h1:Bb x)(h2:Bb y)[e1:Ext w1 w][e2:Ext w2 w]:Cq 158 #[.agg #[.bool g,.slice A n c],.agg #[.bool h,.slice B k d]] w (zD w (x*y)):=
 Jf ha hb (by have:=ha.bd h1.bd (by omega);omega) (by have:=hb.bd h2.bd (by omega);omega)
theorem zh5(ha:IntV w1 g A n c x)(hb:IntV w2 h B k d y)(h1:Bb x)(h2:Bb y)[e1:Ext w1 w][e2:Ext w2 w]:Cq 157 #[.agg #[.bool g,.slice A n c],.agg #[.bool h,.slice B k d]] w (zD w (x+y)):=
 JN ha hb (by have:=ha.bd h1.bd (by omega);omega) (by have:=hb.bd h2.bd (by omega);omega)
theorem zes(ha:IntV w1 g A n c x)(hb:IntV w2 h B k d y)(h1:Bb x)(h2:Bb y)[e1:Ext w1 w][e2:Ext w2 w]:Cq 159 #[.agg #[.bool g,.slice A n c],.agg #[.bool h,.slice B k d]] w (zD w (x-y)):=
 zdf ha hb (by have:=ha.bd h1.bd (by omega);omega) (by have:=hb.bd h2.bd (by omega);omega)
theorem zh6(ha:IntV w1 g A n c x)(hb:IntV w2 h B k d y)(h1:Bb x)(h2:Bb y)(h3:0<y)[e1:Ext w1 w][e2:Ext w2 w]:Cq 161 #[.agg #[.bool g,.slice A n c],.agg #[.bool h,.slice B k d]] w (zD w (x / y)):=
 zbn ha hb (ha.bd h1.bd (by omega)) (hb.bd h2.bd (by omega)) (by omega)
theorem zoK(ha:IntV w1 g A n c x)(h1:Bb x)[e1:Ext w1 w]:Cq 120 #[.agg #[.bool g,.slice A n c]] w (zD w (-x)):=
 zbY ha (by have:=ha.bd h1.bd (by omega);omega)
theorem IntV.bdK(ha:IntV w1 g A n c x){kk:Nat}(hb:Bd kk x):n<=kk / 32+1:=by
 refine ha.len ?_;have h2:x.natAbs<2^(32*(kk / 32+1)):=Nat.lt_of_lt_of_le hb (Nat.pow_le_pow_right (by omega) (by omega));rw[<-zhc]at h2;have h3:=Int.ofNat_lt.2 h2;rw[Int.natCast_pow]at h3;exact h3
theorem IntV.bdLen(ha:IntV w1 g A n c x)(h1:Bb x):n<=1000000:=by
 have:=ha.bdK h1.bd;omega
def zoL(w:World)(x:Int)(e:Ending)(w':World):Prop:=∃g B k d,e= .returned (.tuple #[.agg #[.bool g,.slice B k d],.bool true])/\IntV w' g B k d (zv x.toNat:Int)/\Step w w'
theorem zoM(ha:IntV w1 g A n c x)(h1:Bb x)(h0:0<=x)[e1:Ext w1 w]:Cq 160 #[.agg #[.bool g,.slice A n c]] w (zoL w x):=by
 refine(zoJ ha h0 (ha.bdLen h1)).mono ?_;rintro e w' ⟨g,B,k,d,r,rfl,hz,r0,r1,r2,hs⟩;refine⟨g,B,k,d,rfl,?_,hs⟩;obtain⟨r',rfl⟩:∃r':Nat,r=r':=⟨r.toNat,by omega⟩;have e:zv x.toNat=r':=by
  refine zfA ?_ ?_
  ·have:((r'*r':Nat):Int)<=x:=by simpa using r1
   omega
  ·have:x<(((r'+1)*(r'+1):Nat):Int):=by simpa using r2
   omega
 rw[e];exact hz
end
theorem zoN(h0:0<=x)(h:Bd k x):Bd k (zv x.toNat:Int):=by
 refine h.le ?_;have h1:=(Qe x.toNat).1;generalize zv x.toNat=r at*
 have:r<=r*r:=Nat.le_mul_self r;omega
theorem zh7(hi:i<m.length-s):(qj m s)[i]? =some ((List.range (m.length-s)).map fun j=>fB m s i j):=by
 unfold qj tab;rw[List.getElem?_map,List.getElem?_range hi];rfl
def Q7(m:List (List Int))(s i:Nat):List Int:=((List.range (m.length-s)).map fun j=>fB m s i j).drop 1
theorem zoO(h:m.length=s+q+1)(hj:j<q):(Q7 m s i).getD j 0=fB m s i (j+1):=by
 unfold Q7;have h1:1+j<m.length-s:=by omega
 simp only[List.getD_eq_getElem?_getD,getElem?_drop,List.getElem?_map,List.getElem?_range h1,Option.map_some,Option.getD_some];rw[Nat.add_comm]
theorem zh8(h:m.length=s+q+1):(Q7 m s i).length=q:=by
 simp[Q7];omega
theorem zh9(h:∀i j,Bd k (fB m s i j)):QH k (Q7 m s i):=fun j=>by
 unfold Q7;rw[List.getD_eq_getElem?_getD,getElem?_drop,List.getElem?_map]
 cases (List.range (m.length-s))[1+j]? with
 |none=>exact Bd.zero _
 |some y=>exact h i y
def fD(m:List (List Int))(s q:Nat)(t:List Int)(i:Nat):Int:=zt q fun j=>(Q7 m s i).getD j 0*t.getD j 0
theorem zia(t:List Int)(h:m.length=s+q+1):fD m s q t i=zt q fun j=>fB m s i (j+1)*t.getD j 0:=
 qi fun j hj=>by rw[zoO h hj]
theorem zet(hL:LLLed m)(hs:s<m.length)(i j:Nat):Bd 51200 (fB m s i j):=by
 have h8:=hL.len8;have:=zaw (b:=199) (k:=s) (i:=s+i) (j:=s+j) (m:=m) (by omega) (by omega) hL.bd;rw[zan (fun l hl=>by have:=qN hL.pos (show l<m.length by omega);omega)]at this;exact this
theorem zoP(hL:LLLed m)(hs:s<=m.length):Bd 51200 (zB (ent m) s):=by
 cases s with
 |zero=>exact Bd.one (by omega)
 |succ s=>exact zet hL (s:=s) (by omega) 0 0
theorem zbu(h:∀a∈t,-9223372036854775808<=a/\a<=9223372036854775807):QH 64 t:=fun i=>by
 rw[List.getD_eq_getElem?_getD]
 cases e:t[i]? with
 |none=>exact Bd.zero _
 |some y=>have:=h y (Zm e);exact Bd.of64 this.1 this.2
structure IvB(m:List (List Int))(s q:Nat)(t:List Int)(za:Int):Prop where
 b0:Bb (fB m s 0 0)
 l:Bb (fD m s q t 0)
 d:∀i,Bb (fD m s q t i)
 y:∀i,Bb (t.getD i 0)
 p:∀i,Bb (t.getD i 0*fD m s q t (i+1))
 c:∀k,k<=q->Bb (zt k fun i=>t.getD i 0*fD m s q t (i+1))
 bo:Bb za
 ls:Bb (zB (ent m) s)
 bl:Bb (za*zB (ent m) s)
 c2:Bb (fC m s t-za*zB (ent m) s)
 ll:Bb (fD m s q t 0*fD m s q t 0)
 bc:Bb (fB m s 0 0*(fC m s t-za*zB (ent m) s))
 di:Bb (fD m s q t 0*fD m s q t 0-fB m s 0 0*(fC m s t-za*zB (ent m) s))
 fL:fD m s q t 0=fL m s t
 fC:(zt q fun i=>t.getD i 0*fD m s q t (i+1))=fC m s t
 rt:0<=fD m s q t 0*fD m s q t 0-fB m s 0 0*(Go.Proofs.YtpcgfpmiphiacaaGreat.fC m s t-za*zB (ent m) s)->Bb (zv (fD m s q t 0*fD m s q t 0-fB m s 0 0*(Go.Proofs.YtpcgfpmiphiacaaGreat.fC m s t-za*zB (ent m) s)).toNat:Int)
 df:0<=fD m s q t 0*fD m s q t 0-fB m s 0 0*(Go.Proofs.YtpcgfpmiphiacaaGreat.fC m s t-za*zB (ent m) s)->Bb ((zv (fD m s q t 0*fD m s q t 0-fB m s 0 0*(Go.Proofs.YtpcgfpmiphiacaaGreat.fC m s t-za*zB (ent m) s)).toNat:Int)-fD m s q t 0)
 sm:0<=fD m s q t 0*fD m s q t 0-fB m s 0 0*(Go.Proofs.YtpcgfpmiphiacaaGreat.fC m s t-za*zB (ent m) s)->Bb ((zv (fD m s q t 0*fD m s q t 0-fB m s 0 0*(Go.Proofs.YtpcgfpmiphiacaaGreat.fC m s t-za*zB (ent m) s)).toNat:Int)+fD m s q t 0)
theorem ivB(hL:LLLed m)(hq:m.length=s+q+1)(ht:t.length=q)(htb:∀a∈t,-9223372036854775808<=a/\a<=9223372036854775807)(hb0:-9223372036854775808<=za)(hb1:za<=9223372036854775807):IvB m s q t za:=by
 have h8:=hL.len8;have hB:=zet hL (s:=s) (by omega);have hY:=zbu htb;have hR:∀i,QH 51200 (Q7 m s i):=fun i=>zh9 hB
 have hD:∀i,Bd 51272 (fD m s q t i):=fun i=>(JW (k:=51264) (n:=q) (fun j _=>((hR i j).mul (hY j)).mono (by omega)) q Zr).mono (by omega)
 have hP:∀i,Bd 51336 (t.getD i 0*fD m s q t (i+1)):=fun i=>((hY i).mul (hD (i+1))).mono (by omega)
 have hC:∀k,k<=q->Bd 51344 (zt k fun i=>t.getD i 0*fD m s q t (i+1)):=fun k hk=>(JW (k:=51336) (n:=q) (fun j _=>hP j) k hk).mono (by omega)
 have hbo:Bd 64 za:=Bd.of64 hb0 hb1;have hls:=zoP hL (s:=s) (by omega);have hbl:Bd 51264 (za*zB (ent m) s):=(hbo.mul hls).mono (by omega);have eL:fD m s q t 0=Go.Proofs.YtpcgfpmiphiacaaGreat.fL m s t:=by rw[zia t hq];unfold Go.Proofs.YtpcgfpmiphiacaaGreat.fL;rw[ht]
 have eC:(zt q fun i=>t.getD i 0*fD m s q t (i+1))=Go.Proofs.YtpcgfpmiphiacaaGreat.fC m s t:=by
  unfold Go.Proofs.YtpcgfpmiphiacaaGreat.fC;rw[ht];exact qi fun i _=>by rw[zia t hq]
 have hc2:Bd 51345 (Go.Proofs.YtpcgfpmiphiacaaGreat.fC m s t-za*zB (ent m) s):=by
  rw[<-eC];exact(hC q Zr).sub (hbl.mono (by omega))
 have hll:Bd 102544 (fD m s q t 0*fD m s q t 0):=((hD 0).mul (hD 0)).mono (by omega);have hbc:Bd 102545 (fB m s 0 0*(Go.Proofs.YtpcgfpmiphiacaaGreat.fC m s t-za*zB (ent m) s)):=((hB 0 0).mul hc2).mono (by omega);have hdi:Bd 102546 (fD m s q t 0*fD m s q t 0-fB m s 0 0*(Go.Proofs.YtpcgfpmiphiacaaGreat.fC m s t-za*zB (ent m) s)):=(hll.mono (by omega)).sub hbc;have hrb:=fun(h0:0<=fD m s q t 0*fD m s q t 0-fB m s 0 0*(Go.Proofs.YtpcgfpmiphiacaaGreat.fC m s t-za*zB (ent m) s))=>zoN h0 hdi
 have hrt:0<=fD m s q t 0*fD m s q t 0-fB m s 0 0*(Go.Proofs.YtpcgfpmiphiacaaGreat.fC m s t-za*zB (ent m) s)->Bb (zv (fD m s q t 0*fD m s q t 0-fB m s 0 0*(Go.Proofs.YtpcgfpmiphiacaaGreat.fC m s t-za*zB (ent m) s)).toNat:Int):=fun h0=>⟨(hrb h0).mono (by omega)⟩
 have hdf:0<=fD m s q t 0*fD m s q t 0-fB m s 0 0*(Go.Proofs.YtpcgfpmiphiacaaGreat.fC m s t-za*zB (ent m) s)->Bb ((zv (fD m s q t 0*fD m s q t 0-fB m s 0 0*(Go.Proofs.YtpcgfpmiphiacaaGreat.fC m s t-za*zB (ent m) s)).toNat:Int)-fD m s q t 0):=fun h0=>⟨((hrb h0).sub ((hD 0).mono (by omega))).mono (by omega)⟩
 have hsm:0<=fD m s q t 0*fD m s q t 0-fB m s 0 0*(Go.Proofs.YtpcgfpmiphiacaaGreat.fC m s t-za*zB (ent m) s)->Bb ((zv (fD m s q t 0*fD m s q t 0-fB m s 0 0*(Go.Proofs.YtpcgfpmiphiacaaGreat.fC m s t-za*zB (ent m) s)).toNat:Int)+fD m s q t 0):=fun h0=>⟨((hrb h0).add ((hD 0).mono (by omega))).mono (by omega)⟩
 exact⟨⟨(hB 0 0).mono (by omega)⟩,⟨(hD 0).mono (by omega)⟩,fun i=>⟨(hD i).mono (by omega)⟩,fun i=>⟨(hY i).mono (by omega)⟩,fun i=>⟨(hP i).mono (by omega)⟩,fun k hk=>⟨(hC k hk).mono (by omega)⟩,⟨hbo.mono (by omega)⟩,⟨hls.mono (by omega)⟩,⟨hbl.mono (by omega)⟩,⟨hc2.mono (by omega)⟩,⟨hll.mono (by omega)⟩,⟨hbc.mono (by omega)⟩,⟨((hll.mono (by omega)).sub (hbc.mono (l:=102545) (by omega))).mono (by omega)⟩,eL,eC,hrt,hdf,hsm⟩
set_option maxRecDepth 20000 in
theorem zib{TA:Option Addr}{sc dc tc:Nat}(hF':FrV w0 m SB DB)(hL:LLLed m)(h1:m.length=n)(hq:n=s+q+1)(hT:Ints w1 TA 2 .i64 t)(htl:t.length=q)(htb:∀a∈t,-9223372036854775808<=a/\a<=9223372036854775807)(hb0:-9223372036854775808<=za)(hb1:za<=9223372036854775807)(h0:0<=left (ent m) za (s+1) t)
  (hl0:-9223372036854775808<=zL m za s t) (hl1:zL m za s t<=9223372036854775807) (hh0:-9223372036854775808<=Za m za s t) (hh1:Za m za s t<=9223372036854775807) [hx:Ext w0 w] [hy:Ext w1 w]:
  Cq 89 #[.agg #[.int .i64 n,.slice SB n sc,.slice DB (n+1) dc],.int .i64 za,.slice TA q tc] w (zy w (.tuple #[.int .i64 (zL m za s t),.int .i64 (Za m za s t)])):=by
 have hr:=qA hL.red;have hn8:=hL.len8;have hs:s<m.length:=by omega
 obtain⟨e1,e2,e3,e4⟩:=zow hr hs za t (by omega) h0;have hF:=hF'.ext hx;have hB:=ivB hL (s:=s) (q:=q) (t:=t) (za:=za) (by omega) htl htb hb0 hb1;-- the memory of the stage
 have hms:((List.range m.length).map (qj m))[s]? =some (qj m s):=by simp[hs]
 obtain⟨bs,os,BM,cM,rfl,g1,hM,-,-,g2⟩:=hF.1.at_ hms;rw[zcr,show m.length-s=q+1 by omega]at g1;obtain⟨bm,om,B0,c0,rfl,g3,hI0,g4,g5,g6⟩:=hM.at_ (zh7 (m:=m) (s:=s) (i:=0) (by omega));have hrl:∀i,((List.range (m.length-s)).map fun j=>fB m s i j).length=q+1:=fun i=>by simp;omega
 rw[hrl]at g3 g4;obtain⟨b0,o0,gE,BE,kE,dE,rfl,p1,p2,hzE,p3⟩:=hI0.atD (i:=0) (by rw[hrl];omega);have hE0:((List.range (m.length-s)).map fun j=>fB m s 0 j).getD 0 0=fB m s 0 0:=by
  have:0<m.length-s:=by omega
  simp[List.getD,this]
 rw[hE0]at hzE;obtain⟨bd,od,gD,BD,kD,dD,rfl,d1,d2,hzD,d3⟩:=hF.2.atD (i:=s) (by rw[List.length_cons,QI];omega);have hDs:(1::zu m).getD s 0=zB (ent m) s:=by
  cases s with
  |zero=>rfl
  |succ s=>rw[List.getD_cons_succ,zdE hL.pos (by omega)];rfl
 rw[hDs]at hzD;have zqY:Hid (∀i,i<=q->∃bi oi ci,w.cell? ⟨bm,om+i,none⟩=some (.slice (some ⟨bi,oi,none⟩) (q+1) ci)/\IntsV w (some ⟨bi,oi+2,none⟩) (Q7 m s i)/\q+1<=ci/\ci<=9223372036854775807):=Zh (fun i hi=>by
  obtain⟨b',o',Bi,ci,e,a1,a2,a3,a4,-⟩:=hM.at_ (zh7 (m:=m) (s:=s) (i:=i) (by omega));injection e with e
  injection e with x1 x2
  subst x1 x2;rw[hrl]at a1 a3;obtain⟨bi,oi,-,-,-,-,rfl,-⟩:=a2.atD (i:=0) (by rw[hrl];omega);exact⟨bi,oi,ci,a1,a2.drop 1,a3,a4⟩)
 obtain⟨b0',o0',c0',f1,hR0,f3,f4⟩:=zqY.out 0 (by omega);rw[Nat.add_zero]at f1 g3;rw[g3]at f1;injection f1 with f1
 injection f1 with x1 x2 x3
 injection x1 with x1
 injection x1 with x1 x4
 subst x1 x4 x3;simp only[Nat.zero_mul,Nat.add_zero]at p1 p2;have HCO:Hid (∀W,Ext w1 W->Cq 155 #[.slice TA q tc] W (zaD W t)):=Zh (fun W e=>by
  have:=zcq (w:=W) (c:=tc) hT (by omega) htb;rwa [htl]at this)
 have HDT:Hid (∀(W1 W2 W:World)(A1 A2:Option Addr)(c1 c2 i:Nat),IntsV W1 A1 (Q7 m s i)->IntsV W2 A2 t->Ext W1 W->Ext W2 W->Cq 156 #[.slice A1 q c1,.slice A2 q c2] W (zD W (fD m s q t i))):=Zh (fun W1 W2 W A1 A2 c1 c2 i i1 i2 x1 x2=>
  zbm i1 i2 (zh8 (by omega)) htl (by omega) (k:=51200) (by omega) (zh9 (zet hL hs)) (fun i=>(zbu htb i).mono (by omega)))
 have hnq:(n:Int)-(q:Int)=((s+1:Nat):Int):=by omega
 have hns:((s+1:Nat):Int)-1=(s:Int):=by omega
 have hw1:IntKind.i64.wrap ((n:Int)-(q:Int))=((s+1:Nat):Int):=by rw[hnq];exact Iw
 have hw2:IntKind.i64.wrap (((s+1:Nat):Int)-1)=(s:Int):=by rw[hns];exact Iw
 have hsn:s<n:=by omega
 have HTL:=Zh htl;rw[<-hB.fL]at e1 e2 e3;have HB:=Zh hB;have HE:=Zh (And.intro e1 (And.intro e2 (And.intro e3 e4)));generalize zL m za s t=lo at*
 generalize Za m za s t=hi at*
 have HLO:=Zh (And.intro hl0 hl1);have HHI:=Zh (And.intro hh0 hh1);clear e1 e2 e3 hl0 hl1 hh0 hh1 hB hrl hM hI0 hF hF' hms hE0 hDs h0 hr hL hT htb htl hs x2 hnq hns;have hn9:n<=8:=by omega
 have hqn:q<n:=by omega
 have HQ:Hid (m.length=s+q+1):=Zh (by omega);clear hq hn8 h1;have oa:Old bs w:=⟨g2⟩;have ob:Old bm w:=⟨g6⟩;have oc:Old b0 w:=⟨p3⟩;have ox4:Old bd w:=⟨d3⟩;have HZE:=Zh hzE;have HZD:=Zh hzD;have HR0:=Zh hR0;clear hzE hzD hR0;go_enter Tryz.func89,Tryz.ntmps89;go_upto_region 4 with (go_at_call 155;refine(HCO.out _ Zi).mono ?_;rintro e w3 ⟨A3,c3,rfl,hI3,zuV,zwY,hs3⟩;have HI3:=Zh hI3;clear hI3;rw[HTL.out]at zuV|-)
 have HR1:Hid (q=0->∀W,IntsV W (some ⟨b0,o0,none⟩) (Q7 m s 0)):=Zh (fun e W=>by
  have:Q7 m s 0=[]:=List.eq_nil_of_length_eq_zero (by rw[zh8 (q:=q) (HQ.out)];exact e);rw[this];exact IntsV.nil _ _)
 have hxf:Ext (w.alloc (.cells #[.int .i64 n,.slice (some ⟨bs,os,none⟩) n sc,.slice (some ⟨bd,od,none⟩) (n+1) dc] 96)) w3:=Zi;go_cut [11] (fun s11 wx=>∃p,s11= .pointer (some ⟨p,0,none⟩)/\Hid (Box wx p (fD m s q t 0))/\Ext w3 wx)
 case first=>
  go_wp2_with fail
  ·refine(HDT.out w3 w3 w3 _ _ _ _ 0 (HR1.out (by omega) _) HI3.out Zi Zi).mono ?_;rintro e w4 ⟨g4,B4,k4,d4,rfl,hz4,hs4⟩;go_wp2_with fail
   go_meet
   exact⟨_,rfl,Zh ⟨g4,B4,k4,d4,BlkAt.eq,hz4.keeps⟩,Zi⟩
  ·refine(HDT.out w w3 w3 _ _ _ _ 0 HR0.out HI3.out Zi Zi).mono ?_;rintro e w4 ⟨g4,B4,k4,d4,rfl,hz4,hs4⟩;go_wp2_with fail
   go_meet
   exact⟨_,rfl,Zh ⟨g4,B4,k4,d4,BlkAt.eq,hz4.keeps⟩,Zi⟩
 case rest=>
  obtain⟨wl,rfl⟩:∃wl:World,wl=wc:=⟨_,rfl⟩;obtain⟨p,rfl,HBX,hxc⟩:=hcut;obtain⟨gl,Bl,kl,dl,zxg,l1,l2,l3,l4,l5,hzl⟩:=HBX.out.cells;have oP:Old p wl:=⟨l5⟩;have HZL:=Zh hzl;have HCL:=Zh (And.intro l1 l2);have hx3:Ext w3 wl:=hxc;have hxw:Ext w wl:=(Zi:Ext w w3).trans hxc;clear zxg hzl l1 l2 l3 l4;go_wp2_with fail
  go_loopw [42] (fun i wr=>∃k:Nat,k<=q/\i= .int .i64 k/\Hid (Box wr wl.heap.size (zt k fun i=>t.getD i 0*fD m s q t (i+1)))/\Ext wl wr) (fun i _=>q-(intOf i).toNat)
  case atStart=>
   refine⟨0,by omega,rfl,Zh ⟨false,none,0,0,?_,IntV.zero _ _ _ (by omega)⟩,Zi⟩;exact BlkAt.eq
  case round=>
   obtain⟨k,hk,rfl,HC,hxr⟩:=hrel;have zsr:Ext w wr:=hxw.trans hxr;have zvQ:Ext w3 wr:=hx3.trans hxr;by_cases hlt:k<q
   ·obtain⟨gc,Bc,kc,dc',ztV,r1,r2,r3,r4,r5,hzc⟩:=HC.out.cells;obtain⟨by_,oy,gy,By,ky,dy,rfl,y1,y2,hzy,y3⟩:=(HI3.out.ext zvQ).atD (i:=k) (by rw[HTL.out];exact hlt);obtain⟨bi,oi,ci,i1,hIi,i3,i4⟩:=zqY.out (k+1) (by omega);have hi1:wr.cell? ⟨bm,om+(k+1),none⟩=some (.slice (some ⟨bi,oi,none⟩) (q+1) ci):=(zi w).trans i1;have HS:=Zh (And.intro r1 (And.intro r2 (And.intro y1 (And.intro y2 hi1))));have oC:Old wl.heap.size wr:=⟨r5⟩
    have oY:Old by_ wr:=⟨y3⟩;have oM:Old bm wr:=⟨Nat.lt_of_lt_of_le g6 zsr.size⟩;have HZC:=Zh hzc;have HZY:=Zh hzy;have HII:=Zh hIi;have HBK:=Zh ztV;have HNX:Hid ((zt k fun i=>t.getD i 0*fD m s q t (i+1))+t.getD k 0*fD m s q t (k+1)=zt (k+1) fun i=>t.getD i 0*fD m s q t (i+1)):=Zh (by rw[qV]);have HB1:=Zh (HB.out.c k (by omega));have HF3:=Zh (And.intro r3 r4);generalize (zt k fun i=>t.getD i 0*fD m s q t (i+1))=ck at*
    have hwk:IntKind.i64.wrap ((k:Int)+1)=((k+1:Nat):Int):=Iw;have hci:1<ci:=by omega
    have zyo:ci≠1:=by omega
    have hk0:(0:Int)<=(k:Int)+1:=by omega
    have hq1:(1:Int)<=(q:Int)+1:=by omega
    have hq2:(q:Int)+1<=(ci:Int):=by omega
    have hk1:(k:Int)+1<(q:Int)+1:=by omega
    clear ztV r1 r2 r3 r4 hzc y1 y2 hzy i1 hIi hi1;go_wp2_with fail
    have a1:wr.cell? ⟨wl.heap.size,0,none⟩=some (.bool gc):=HS.out.1;have a2:wr.cell? ⟨wl.heap.size,1,none⟩=some (.slice Bc kc dc'):=HS.out.2.1;have a3:wr.cell? ⟨by_,oy+k*2,none⟩=some (.bool gy):=HS.out.2.2.1;have a4:wr.cell? ⟨by_,oy+k*2+1,none⟩=some (.slice By ky dy):=HS.out.2.2.2.1;have a5:wr.cell? ⟨bm,om+(k+1),none⟩=some (.slice (some ⟨bi,oi,none⟩) (q+1) ci):=HS.out.2.2.2.2;go_region_law (first
     |(go_simp;go_at_call 156;refine(HDT.out w w3 _ _ _ _ _ (k+1) HII.out HI3.out Zi Zi).mono ?_;rintro e w5 ⟨g5,B5,k5,d5,rfl,hz5,hs5⟩;have b1:w5.cell? ⟨wl.heap.size,0,none⟩=some (.bool gc):=(zi wr).trans HS.out.1;have b2:w5.cell? ⟨wl.heap.size,1,none⟩=some (.slice Bc kc dc'):=(zi wr).trans HS.out.2.1;have b3:w5.cell? ⟨by_,oy+k*2,none⟩=some (.bool gy):=(zi wr).trans HS.out.2.2.1;have b4:w5.cell? ⟨by_,oy+k*2+1,none⟩=some (.slice By ky dy):=(zi wr).trans HS.out.2.2.2.1;have b5:w5.cell? ⟨bm,om+(k+1),none⟩=some (.slice (some ⟨bi,oi,none⟩) (q+1) ci):=(zi wr).trans HS.out.2.2.2.2)
     |(go_simp;go_at_call 158;refine(zcv HZY.out hz5 (HB.out.y k) (HB.out.d (k+1))).mono ?_;rintro e w6 ⟨g6',B6,k6,d6,rfl,hz6,hs6⟩;have c1:w6.cell? ⟨wl.heap.size,0,none⟩=some (.bool gc):=(zi wr).trans HS.out.1;have c2:w6.cell? ⟨wl.heap.size,1,none⟩=some (.slice Bc kc dc'):=(zi wr).trans HS.out.2.1;have c3:w6.cell? ⟨by_,oy+k*2,none⟩=some (.bool gy):=(zi wr).trans HS.out.2.2.1;have c4:w6.cell? ⟨by_,oy+k*2+1,none⟩=some (.slice By ky dy):=(zi wr).trans HS.out.2.2.2.1;have c5:w6.cell? ⟨bm,om+(k+1),none⟩=some (.slice (some ⟨bi,oi,none⟩) (q+1) ci):=(zi wr).trans HS.out.2.2.2.2)
     |(go_simp;go_at_call 157;refine(zh5 HZC.out hz6 HB1.out (HB.out.p k)).mono ?_;rintro e w7 ⟨g7,B7,k7,d7,rfl,hz7,hs7⟩;rw[HNX.out]at hz7;have f1:w7.frozen? ⟨wl.heap.size,0,none⟩=false:=(qc wr).trans HF3.out.1;have f2:w7.frozen? ⟨wl.heap.size,1,none⟩=false:=(qc wr).trans HF3.out.2;have d1:w7.cell? ⟨wl.heap.size,0,none⟩=some (.bool gc):=(zi wr).trans HS.out.1;have d2:w7.cell? ⟨wl.heap.size,1,none⟩=some (.slice Bc kc dc'):=(zi wr).trans HS.out.2.1;have d3:w7.cell? ⟨by_,oy+k*2,none⟩=some (.bool gy):=(zi wr).trans HS.out.2.2.1;have d4:w7.cell? ⟨by_,oy+k*2+1,none⟩=some (.slice By ky dy):=(zi wr).trans HS.out.2.2.2.1;have d5:w7.cell? ⟨bm,om+(k+1),none⟩=some (.slice (some ⟨bi,oi,none⟩) (q+1) ci):=(zi wr).trans HS.out.2.2.2.2))
    all_goals
     go_wp2;refine⟨⟨k+1,by omega,by go_num,Zh ?_,?_⟩,by simp[intOf]<;>omega⟩
     ·exact Box.put (zj (Zi:Ext wr w7) HBK.out) hz7
     ·exact((hxr.trans (Zi:Ext wr w7)).setCell (p:=⟨wl.heap.size,0,none⟩) Zr _).setCell (p:=⟨wl.heap.size,1,none⟩) Zr _
   ·obtain rfl:k=q:=by omega
    have HC1:=HC.out;rw[HB.out.fC]at HC1;obtain⟨gc,Bc,kc,dc',ztV,r1,r2,r3,r4,r5,hzc⟩:=HC1.cells;have HCS:=Zh (show Bb (fC m s t) by have:=HB.out.c k Zr;rwa [HB.out.fC]at this);have oC:Old wl.heap.size wr:=⟨r5⟩;have HZC:=Zh hzc;have HBK:=Zh ztV;have HF3:=Zh (And.intro r3 r4);have hfb:wr.heap[w.heap.size]? =some (.cells #[.int .i64 n,.slice (some ⟨bs,os,none⟩) n sc,.slice (some ⟨bd,od,none⟩) (n+1) dc] 96 (0,0)):=zj (hxf.trans zvQ) (heap_alloc_new w _)
    obtain⟨⟨-,-,f2⟩,-,f5⟩:=j4 hfb;have oF:Old w.heap.size wr:=⟨f5⟩;have oD:Old bd wr:=⟨Nat.lt_of_lt_of_le d3 zsr.size⟩;have oB:Old bm wr:=⟨Nat.lt_of_lt_of_le g6 zsr.size⟩;have oE:Old b0 wr:=⟨Nat.lt_of_lt_of_le p3 zsr.size⟩;have oP2:Old p wr:=⟨Nat.lt_of_lt_of_le l5 hxr.size⟩;have e1:wr.cell? ⟨bd,od+s*2,none⟩=some (.bool gD):=(zi w).trans d1;have e2:wr.cell? ⟨bd,od+s*2+1,none⟩=some (.slice BD kD dD):=(zi w).trans d2
    have HS:=Zh (And.intro r1 (And.intro r2 (And.intro e1 (And.intro e2 f2))));have HSM:=Zh (fun W=>Qf za hb0 hb1 W);have zyp:(s:Int)<(n:Int)+1:=by omega
    clear ztV r3 r4 hzc HC HC1 hfb;go_wp2_with fail
    go_cut [] (fun wx=>Hid (Box wx wl.heap.size (fC m s t-za*zB (ent m) s))/\Ext wl wx)
    case first=>
     go_region_law (first
      |(go_simp;go_at_call 88;refine(HSM.out _).mono ?_;rintro e w5 ⟨g5,B5,k5,d5,rfl,hz5,hs5⟩;have b1:w5.cell? ⟨wl.heap.size,0,none⟩=some (.bool gc):=(zi wr).trans HS.out.1;have b2:w5.cell? ⟨wl.heap.size,1,none⟩=some (.slice Bc kc dc'):=(zi wr).trans HS.out.2.1;have b3:w5.cell? ⟨bd,od+s*2,none⟩=some (.bool gD):=(zi wr).trans HS.out.2.2.1;have b4:w5.cell? ⟨bd,od+s*2+1,none⟩=some (.slice BD kD dD):=(zi wr).trans HS.out.2.2.2.1;have b5:w5.cell? ⟨w.heap.size,2,none⟩=some (.slice (some ⟨bd,od,none⟩) (n+1) dc):=(zi wr).trans HS.out.2.2.2.2)
      |(go_simp;go_at_call 158;refine(zcv hz5 HZD.out HB.out.bo HB.out.ls).mono ?_;rintro e w6 ⟨g6',B6,k6,d6,rfl,hz6,hs6⟩;have c1:w6.cell? ⟨wl.heap.size,0,none⟩=some (.bool gc):=(zi wr).trans HS.out.1;have c2:w6.cell? ⟨wl.heap.size,1,none⟩=some (.slice Bc kc dc'):=(zi wr).trans HS.out.2.1;have c3:w6.cell? ⟨bd,od+s*2,none⟩=some (.bool gD):=(zi wr).trans HS.out.2.2.1;have c4:w6.cell? ⟨bd,od+s*2+1,none⟩=some (.slice BD kD dD):=(zi wr).trans HS.out.2.2.2.1;have c5:w6.cell? ⟨w.heap.size,2,none⟩=some (.slice (some ⟨bd,od,none⟩) (n+1) dc):=(zi wr).trans HS.out.2.2.2.2)
      |(go_simp;go_at_call 159;refine(zes HZC.out hz6 HCS.out HB.out.bl).mono ?_;rintro e w7 ⟨g7,B7,k7,d7,rfl,hz7,hs7⟩;have f1:w7.frozen? ⟨wl.heap.size,0,none⟩=false:=(qc wr).trans HF3.out.1;have f2:w7.frozen? ⟨wl.heap.size,1,none⟩=false:=(qc wr).trans HF3.out.2;have d1:w7.cell? ⟨wl.heap.size,0,none⟩=some (.bool gc):=(zi wr).trans HS.out.1;have d2:w7.cell? ⟨wl.heap.size,1,none⟩=some (.slice Bc kc dc'):=(zi wr).trans HS.out.2.1;have d3:w7.cell? ⟨bd,od+s*2,none⟩=some (.bool gD):=(zi wr).trans HS.out.2.2.1;have d4:w7.cell? ⟨bd,od+s*2+1,none⟩=some (.slice BD kD dD):=(zi wr).trans HS.out.2.2.2.1;have d5:w7.cell? ⟨w.heap.size,2,none⟩=some (.slice (some ⟨bd,od,none⟩) (n+1) dc):=(zi wr).trans HS.out.2.2.2.2))
     all_goals
      go_wp2;go_meet
      exact⟨Zh (Box.put (zj (Zi:Ext wr w7) HBK.out) hz7),((hxr.trans (Zi:Ext wr w7)).setCell (p:=⟨wl.heap.size,0,none⟩) Zr _).setCell (p:=⟨wl.heap.size,1,none⟩) Zr _⟩
    case rest=>
     obtain⟨w2,rfl⟩:∃w2:World,w2=wc:=⟨_,rfl⟩;obtain⟨HC2,hx2⟩:=hcut;have zsQ:Ext w w2:=hxw.trans hx2;obtain⟨gd,Bd',kd,dd',-,r1,r2,-,-,r5,hzc⟩:=HC2.out.cells;have zrR:=Zh hzc;have oC2:Old wl.heap.size w2:=⟨r5⟩;have oB2:Old bm w2:=⟨Nat.lt_of_lt_of_le g6 zsQ.size⟩;have oE2:Old b0 w2:=⟨Nat.lt_of_lt_of_le p3 zsQ.size⟩;have oP3:Old p w2:=⟨Nat.lt_of_lt_of_le l5 hx2.size⟩;have z1:w2.cell? ⟨p,0,none⟩=some (.bool gl):=(zi wl).trans HCL.out.1
     have z2:w2.cell? ⟨p,1,none⟩=some (.slice Bl kl dl):=(zi wl).trans HCL.out.2;have z3:w2.cell? ⟨bm,om,none⟩=some (.slice (some ⟨b0,o0,none⟩) (k+1) c0):=(zi w).trans g3;have z4:w2.cell? ⟨b0,o0,none⟩=some (.bool gE):=(zi w).trans p1;have z5:w2.cell? ⟨b0,o0+1,none⟩=some (.slice BE kE dE):=(zi w).trans p2;have HS2:=Zh (And.intro r1 (And.intro r2 (And.intro z1 (And.intro z2 (And.intro z3 (And.intro z4 z5))))))
     clear r1 r2 z1 z2 z3 z4 z5 hzc HBK HF3 HS HZC HCS HC2;go_wp2_with fail
     go_cut [14] (fun s14 wx=>∃p4,s14= .pointer (some ⟨p4,0,none⟩)/\Hid (Box wx p4 (zv (fD m s k t 0*fD m s k t 0-fB m s 0 0*(fC m s t-za*zB (ent m) s)).toNat:Int))/\Ext w2 wx)
     case first=>
      go_region_held3 (fun w'=>w'.cell? ⟨wl.heap.size,0,none⟩=some (.bool gd)/\w'.cell? ⟨wl.heap.size,1,none⟩=some (.slice Bd' kd dd')/\w'.cell? ⟨p,0,none⟩=some (.bool gl)/\w'.cell? ⟨p,1,none⟩=some (.slice Bl kl dl)/\w'.cell? ⟨bm,om,none⟩=some (.slice (some ⟨b0,o0,none⟩) (k+1) c0)/\w'.cell? ⟨b0,o0,none⟩=some (.bool gE)/\w'.cell? ⟨b0,o0+1,none⟩=some (.slice BE kE dE))
       (exact⟨(zi w2).trans HS2.out.1,(zi w2).trans HS2.out.2.1,(zi w2).trans HS2.out.2.2.1,(zi w2).trans HS2.out.2.2.2.1,(zi w2).trans HS2.out.2.2.2.2.1,(zi w2).trans HS2.out.2.2.2.2.2.1,(zi w2).trans HS2.out.2.2.2.2.2.2⟩)
       (first
        |(go_at_call_of 158 (Value.agg #[.bool gl,.slice Bl kl dl]);refine(zcv HZL.out HZL.out HB.out.l HB.out.l).mono ?_;rintro e w5 ⟨g5,B5,k5,d5,rfl,hz5,hs5⟩)
        |(go_at_call_of 158 (Value.agg #[.bool gE,.slice BE kE dE]);refine(zcv HZE.out zrR.out HB.out.b0 HB.out.c2).mono ?_;rintro e w6 ⟨g6',B6,k6,d6,rfl,hz6,hs6⟩)
        |(go_at_call 159;refine(zes hz5 hz6 HB.out.ll HB.out.bc).mono ?_;rintro e w7 ⟨g7,B7,k7,d7,rfl,hz7,hs7⟩)
        |(go_at_call 160;refine(zoM hz7 HB.out.di HE.out.1).mono ?_;rintro e w8 ⟨g8,B8,k8,d8,rfl,hz8,hs8⟩))
      all_goals (go_wp2_with fail;go_meet;exact⟨_,rfl,Zh ⟨g8,B8,k8,d8,BlkAt.eq,hz8.keeps⟩,Zi⟩)
     case rest=>
      obtain⟨w9,rfl⟩:∃w9:World,w9=wc:=⟨_,rfl⟩;obtain⟨p4,rfl,HR4,hx9⟩:=hcut;obtain⟨gr,Br,kr,dr,-,r1,r2,-,-,r5,hzr⟩:=HR4.out.cells;have HZR:=Zh hzr;have oR9:Old p4 w9:=⟨r5⟩;have zxh:Ext w w9:=zsQ.trans hx9;have zxi:Ext wl w9:=hx2.trans hx9;have HSS:=Zh (And.intro (HB.out.rt HE.out.1) (And.intro (HB.out.df HE.out.1) (HB.out.sm HE.out.1)));have HE2:=Zh HE.out.2;generalize (zv (fD m s k t 0*fD m s k t 0-fB m s 0 0*(fC m s t-za*zB (ent m) s)).toNat:Int)=R at*
      have HKP:Hid (∀W,Ext w9 W->W.cell? ⟨p4,0,none⟩=some (.bool gr)/\W.cell? ⟨p4,1,none⟩=some (.slice Br kr dr)/\W.cell? ⟨p,0,none⟩=some (.bool gl)/\W.cell? ⟨p,1,none⟩=some (.slice Bl kl dl)/\W.cell? ⟨bm,om,none⟩=some (.slice (some ⟨b0,o0,none⟩) (k+1) c0)/\W.cell? ⟨b0,o0,none⟩=some (.bool gE)/\W.cell? ⟨b0,o0+1,none⟩=some (.slice BE kE dE)):=Zh (fun W e=>by
       have e2:Ext w2 W:=hx9.trans e;exact⟨(zi w9).trans r1,(zi w9).trans r2,(zi w2).trans HS2.out.2.2.1,(zi w2).trans HS2.out.2.2.2.1,(zi w2).trans HS2.out.2.2.2.2.1,(zi w2).trans HS2.out.2.2.2.2.2.1,(zi w2).trans HS2.out.2.2.2.2.2.2⟩)
      clear r1 r2 hzr HR4;go_wp2_with fail
      go_cut [16] (fun s16 wx=>s16= .int .i64 hi/\Ext w9 wx)
      case first=>
       go_region_held3 (fun w'=>w'.cell? ⟨p4,0,none⟩=some (.bool gr)/\w'.cell? ⟨p4,1,none⟩=some (.slice Br kr dr)/\w'.cell? ⟨p,0,none⟩=some (.bool gl)/\w'.cell? ⟨p,1,none⟩=some (.slice Bl kl dl)/\w'.cell? ⟨bm,om,none⟩=some (.slice (some ⟨b0,o0,none⟩) (k+1) c0)/\w'.cell? ⟨b0,o0,none⟩=some (.bool gE)/\w'.cell? ⟨b0,o0+1,none⟩=some (.slice BE kE dE))
        (exact HKP.out _ Zi)
        (first
         |(go_at_call 159;refine(zes HZR.out HZL.out HSS.out.1 HB.out.l).mono ?_;rintro e w5 ⟨g5,B5,k5,d5,rfl,hz5,hs5⟩)
         |(go_at_call 161;refine(zh6 hz5 HZE.out HSS.out.2.1 HB.out.b0 HE2.out.2.2).mono ?_;rintro e w6 ⟨g6',B6,k6,d6,rfl,hz6,hs6⟩;rw[HE2.out.1]at hz6)
         |(go_at_call 91;refine(za4 hz6 HHI.out.1 HHI.out.2).mono ?_;rintro e w7 ⟨rfl,hs7⟩))
       all_goals (go_wp2_with fail;go_meet;exact⟨rfl,Zi⟩)
      case rest=>
       obtain⟨wz,rfl⟩:∃wz:World,wz=wc:=⟨_,rfl⟩;obtain⟨rfl,hxz⟩:=hcut;have zyq:Ext w wz:=zxh.trans hxz;have zyr:Ext wl wz:=zxi.trans hxz;go_wp2_with fail
       go_region_held3 (fun w'=>w'.cell? ⟨p4,0,none⟩=some (.bool gr)/\w'.cell? ⟨p4,1,none⟩=some (.slice Br kr dr)/\w'.cell? ⟨p,0,none⟩=some (.bool gl)/\w'.cell? ⟨p,1,none⟩=some (.slice Bl kl dl)/\w'.cell? ⟨bm,om,none⟩=some (.slice (some ⟨b0,o0,none⟩) (k+1) c0)/\w'.cell? ⟨b0,o0,none⟩=some (.bool gE)/\w'.cell? ⟨b0,o0+1,none⟩=some (.slice BE kE dE))
        (exact HKP.out _ (hxz.trans Zi))
        (first
         |(go_at_call 157;refine(zh5 HZR.out HZL.out HSS.out.1 HB.out.l).mono ?_;rintro e w5 ⟨g5,B5,k5,d5,rfl,hz5,hs5⟩)
         |(go_at_call 161;refine(zh6 hz5 HZE.out HSS.out.2.2 HB.out.b0 HE2.out.2.2).mono ?_;rintro e w6 ⟨g6',B6,k6,d6,rfl,hz6,hs6⟩)
         |(go_at_call 120;refine(zoK hz6 ⟨(HSS.out.2.2.bd).div _⟩).mono ?_;rintro e w7 ⟨g7,B7,k7,d7,rfl,hz7,hs7⟩;rw[HE2.out.2.1]at hz7)
         |(go_at_call 91;refine(za4 hz7 HLO.out.1 HLO.out.2).mono ?_;rintro e w8 ⟨rfl,hs8⟩))
       all_goals
        go_wp2_with fail
        go_ret2
        exact⟨rfl,Step.of _ _⟩
end
end Go.Proofs.YtpcgfpmiphiacaaGreat

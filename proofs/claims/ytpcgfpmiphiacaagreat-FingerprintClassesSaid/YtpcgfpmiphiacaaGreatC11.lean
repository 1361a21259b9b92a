import Derived.Test.YtpcgfpmiphiacaaGreatC10
set_option maxHeartbeats 8000000
set_option linter.unusedVariables false
set_option linter.unusedSimpArgs false
namespace Go.Proofs.YtpcgfpmiphiacaaGreat
open List (cons_append mem_flatMap mem_range mem_cons nodup_range mem_map length_cons map_cons sum_cons getElem?_set_self getElem?_set_ne length_set)
variable {cs:Array Value} {exact:Bool} {M N Q R h z za:Int} {L m:List (List Int)} {l x:List Int} {b c i j k n:Nat} {g:Nat->Int} {B:Option Addr}
section
open La
theorem zca(g:Nat->Int)(t:List Int):∀(k:Nat)(l:List Int),l.length=t.length->(∀i,i<t.length->l.getD i 0=g (k+i))->zG l t=ZW g k t:=by
 induction t with
 |nil=>intro k l hl _;obtain rfl:=List.eq_nil_of_length_eq_zero hl;rfl
 |cons c t ih=>
  intro k l hl h
  cases l with
  |nil=>grind
  |cons a l=>
   have h0:=h 0 (by simp);simp only[List.getD_cons_zero,Nat.add_zero]at h0;simp only[zG,ZW,h0];rw[ih (k+1) l (by grind) (fun i hi=>?_)];have:=h (i+1) (by grind);grind
section
variable {m:List (List Int)} {k:Nat}
theorem zdJ(hk:k<m.length)(t:List Int)(ht:t.length=m.length-1-k):qK (zr m m.length) k t=ZW (E (ent m) k k) (k+1) t:=by
 unfold qK;rw[zdw hk];refine zca _ t (k+1) _ (by simp[ZA];omega) (fun i hi=>?_);have h1:i<m.length-k-1:=by omega
 have h2:ent (zo m k).2 0 (i+1)=E (ent m) k k (k+(i+1)):=by
  have:=Z6 (m:=m) (k:=k) (i:=0) (j:=i+1) (by omega) (by omega);grind
 simp only[ZA];grind
theorem zmD(hk:k<m.length)(t:List Int)(ht:t.length=m.length-1-k)(c:Int):vU (zm m m.length) (zr m m.length) k t c=lE (ent m) k (c::t):=by
 unfold vU lE;rw[zdJ hk t ht,qp (by omega)];rfl
theorem QG(hr:RedOK m)(hk:k<m.length)(za:Int)(t:List Int)(ht:t.length=m.length-1-k)(c:Int):qg (zm m m.length) (zr m m.length) k (left (ent m) za (k+1) t) t c=left (ent m) za k (c::t):=by
 have zsm:=jj (qh hr.small) (fun i j hi hj=>((of_decide_eq_true hr.small).2.2.2 i hi j hj).1);unfold qg ZK;rw[zmD hk t ht,qp (by omega),qp (by omega),zdH zsm (hr.pos.le (by omega))];have:=ZV hr.pos (by omega:k+1<=m.length);exact Int.mul_ediv_cancel_left _ (by omega)
theorem zmE(hN:0<=N)(u:Int):(-((zv N.toNat:Nat):Int)<=u/\u<=((zv N.toNat:Nat):Int))↔u*u<=N:=by
 obtain⟨h1,h2⟩:=Qe N.toNat;obtain⟨r,hr⟩:=Xz (zv N.toNat);rw[<-hr]at h1 h2|-
 have g2:N<((r:Int)+1)*((r:Int)+1):=by grind
 constructor
 ·rintro⟨a,b⟩;have:=Qx (a:=u) (b:=u) (A:=r) (B:=r) (by omega) (by omega) (by omega) (by omega);omega
 ·intro hu;rcases(by omega:(-(r:Int)<=u/\u<=r)∨(r:Int)+1<=u∨(r:Int)+1<=-u) with h|h|h
  ·exact h
  ·have:=Int.mul_le_mul h h (by omega) (by omega);omega
  ·have:=Int.mul_le_mul h h (by omega) (by omega);grind
theorem jY(hr:RedOK m)(hk:k<m.length)(t:List Int)(ht:t.length=m.length-1-k)(h0:0<=left (ent m) za (k+1) t)(c:Int):
  (zY (zm m m.length) (zr m m.length) k (left (ent m) za (k+1) t) t<=c/\c<=Z4 (zm m m.length) (zr m m.length) k (left (ent m) za (k+1) t) t)↔0<=left (ent m) za k (c::t):=by
 have zsm:=jj (qh hr.small) (fun i j hi hj=>((of_decide_eq_true hr.small).2.2.2 i hi j hj).1);have hd:=ZV hr.pos (by omega:k+1<=m.length);have hd0:=ZV hr.pos (by omega:k<=m.length);have hst:=zdH zsm (hr.pos.le (by omega:k+1<=m.length)) za c t;have hu:lE (ent m) k (c::t)=zB (ent m) (k+1)*c+ZW (E (ent m) k k) (k+1) t:=rfl;have hN:0<=zB (ent m) k*left (ent m) za (k+1) t:=Int.mul_nonneg (by omega) h0;have hq:=zmE hN (lE (ent m) k (c::t))
 unfold zY Z4 vR ZK;rw[zdJ hk t ht,qp (by omega),qp (by omega)];obtain⟨r,hr'⟩:∃r,r=((zv (zB (ent m) k*left (ent m) za (k+1) t).toNat:Nat):Int):=⟨_,rfl⟩;rw[<-hr']at hq|-
 obtain⟨s,hs⟩:=Xz (ZW (E (ent m) k k) (k+1) t);rw[<-hs]at hu|-
 obtain⟨d,hd'⟩:∃d,d=zB (ent m) (k+1):=⟨_,rfl⟩;rw[<-hd']at hu hd hst|-
 obtain⟨u,hu'⟩:∃u,u=lE (ent m) k (c::t):=⟨_,rfl⟩;rw[<-hu']at hu hq hst;have e1:-((r+s) / d)<=c↔-r<=u:=by
  have h1:=Int.le_ediv_iff_mul_le (a:=-c) (b:=r+s) hd;grind
 have e2:c<=(r-s) / d↔u<=r:=by
  have h1:=Int.le_ediv_iff_mul_le (a:=c) (b:=r-s) hd;grind
 rw[e1,e2,hq];constructor
 ·intro h;rcases Int.lt_or_le (left (ent m) za k (c::t)) 0 with h6|h6
  ·have:=Int.mul_neg_of_pos_of_neg hd h6;omega
  grind
 ·intro h;have:=Int.mul_nonneg (Int.le_of_lt hd) h;omega
end
def qt:List Int->Prop
 |[]=>False
 |c::t=>qt t∨((∀x∈t,x=0)/\0<c)
theorem zgM(p:List Int)(c:Int):qt (p++[c])↔0<c∨(c=0/\qt p):=by
 induction p with
 |nil=>simp[qt]
 |cons a p ih=>
  simp only[cons_append,qt,ih];constructor
  ·rintro((h|⟨h1,h2⟩)|⟨h1,h2⟩)
   ·grind
   ·grind
   simp_all
  grind
theorem zgN(hr:RedOK m)(za:Int)(p:List Int):∀(k:Nat)(t:List Int),k+p.length<=m.length->0<=left (ent m) za k (p++t)->0<=left (ent m) za (k+p.length) t:=by
 have zsm:=jj (qh hr.small) (fun i j hi hj=>((of_decide_eq_true hr.small).2.2.2 i hi j hj).1);induction p with
 |nil=>grind
 |cons c p ih=>
  intro k t hk h;have h1:=zdI zsm (hr.pos.le (by grind:k+1<=m.length)) za c (p++t) h;grind
theorem zcb{α:Type}{p:List α}(h:p.length=k+1):∃q c,p=q++[c]/\q.length=k:=by
 refine⟨p.dropLast,p.getLast (by grind),(List.dropLast_concat_getLast _).symm,by grind⟩
theorem zmF(g:Nat->Int)(t:List Int)(h:∀x∈t,x=0):∀k,ZW g k t=0:=by
 induction t with
 |nil=>intro k;rfl
 |cons c t ih=>
  intro k;have hc:=h c (by simp);subst hc;simp only[ZW,ih (fun x hx=>h x (by grind))];simp
theorem zbd(hr:RedOK m)(hb:0<=za)(hk:k<=m.length)(t:List Int)(h:∀x∈t,x=0):0<=left (ent m) za k t:=by
 unfold left qE jJ;rw[zmF _ t h];have:=Int.mul_nonneg (Int.le_of_lt (ZV hr.pos hk)) hb;omega
theorem zbe(hr:RedOK m)(hb:0<=za)(zero:Bool)(t:List Int)(hk:k<m.length)(ht:t.length=m.length-1-k)(h0:0<=left (ent m) za (k+1) t)(hz:zero=true->∀x∈t,x=0)(c:Int):
  (∃j:Nat,j<jH (zm m m.length) (zr m m.length) k (left (ent m) za (k+1) t) zero t/\Z5 (zm m m.length) (zr m m.length) k (left (ent m) za (k+1) t) zero t+(j:Int)=c)↔(0<=left (ent m) za k (c::t)/\(zero=true->0<=c)):=by
 rw[<-jY hr hk t ht h0 c];unfold jH Z5
 cases zero with
 |false=>
  simp only[Bool.false_eq_true,if_false];constructor
  ·grind
  ·rintro⟨h1,h2⟩;exact⟨(c-zY (zm m m.length) (zr m m.length) k (left (ent m) za (k+1) t) t).toNat,by omega,by omega⟩
 |true=>
  have hz0:=(jY hr hk t ht h0 0).2 (zbd hr hb (by omega) (0::t) (fun x hx=>by grind));simp only[if_true,true_implies];constructor
  ·grind
  ·rintro⟨⟨h1,h2⟩,h3⟩;exact⟨c.toNat,by omega,by omega⟩
theorem zcc(hr:RedOK m)(hb:0<=za)(exact:Bool)(x:List Int)(k:Nat):∀(zero:Bool)(t:List Int),k<m.length->t.length=m.length-1-k->0<=left (ent m) za (k+1) t->(zero=true->∀x∈t,x=0)->
  (x∈Zy (zm m m.length) (zr m m.length) exact k (left (ent m) za (k+1) t) zero t↔
   ∃p:List Int,x=p++t/\p.length=k+1/\0<=left (ent m) za 0 x/\(exact=true->left (ent m) za 0 x=0)/\(zero=true->qt p)):=by
 induction k with
 |zero=>
  intro zero t hk ht h0 hz;simp only[Zy,mem_flatMap,mem_range];constructor
  ·rintro⟨j,hj,hx⟩;obtain⟨c,hc⟩:∃c,Z5 (zm m m.length) (zr m m.length) 0 (left (ent m) za (0+1) t) zero t+(j:Int)=c:=⟨_,rfl⟩;obtain⟨g1,g2⟩:=(zbe hr hb zero t hk ht h0 hz c).1 ⟨j,hj,hc⟩;rw[hc,QG hr hk za t ht]at hx;split at hx
   ·rename_i htk
    obtain rfl:x=c::t:=by simpa using hx
    refine⟨[c],rfl,rfl,g1,fun he=>?_,fun hzz=>?_⟩
    ·simp only[jh,he,Bool.true_and,Bool.not_not,Bool.and_eq_true,decide_eq_true_eq]at htk;exact htk.2
    ·have:=g2 hzz;simp only[jh,hzz,Bool.true_and,Bool.and_eq_true,Bool.not_eq_true',decide_eq_false_iff_not]at htk;refine .inr ⟨by simp,by omega⟩
   ·simp at hx
  ·rintro⟨p,rfl,hp,g1,g2,g3⟩;obtain⟨q,c,rfl,hq⟩:=zcb hp;obtain rfl:=List.eq_nil_of_length_eq_zero hq;simp only[List.nil_append,cons_append]at g1 g2 g3|-
   have hc0:zero=true->0<c:=fun hzz=>by
    rcases g3 hzz with h|⟨_,h⟩
    ·exact absurd h (by simp[qt])
    ·exact h
   obtain⟨j,hj,hc⟩:=(zbe hr hb zero t hk ht h0 hz c).2 ⟨g1,fun hzz=>by have:=hc0 hzz;omega⟩;refine⟨j,hj,?_⟩;rw[hc,QG hr hk za t ht,if_pos]
   ·simp
   ·simp only[jh,Bool.and_eq_true,Bool.not_eq_true',Bool.and_eq_false_iff,decide_eq_false_iff_not,Bool.not_eq_false',decide_eq_true_eq];constructor
    ·cases zero with
     |false=>exact .inl rfl
     |true=>have:=hc0 rfl;exact .inr (by omega)
    ·cases exact with
     |false=>exact .inl rfl
     |true=>exact .inr (g2 rfl)
 |succ k ih=>
  intro zero t hk ht h0 hz;simp only[Zy,mem_flatMap,mem_range];constructor
  ·rintro⟨j,hj,hx⟩;obtain⟨c,hc⟩:∃c,Z5 (zm m m.length) (zr m m.length) (k+1) (left (ent m) za (k+1+1) t) zero t+(j:Int)=c:=⟨_,rfl⟩;obtain⟨g1,g2⟩:=(zbe hr hb zero t hk ht h0 hz c).1 ⟨j,hj,hc⟩;rw[hc,QG hr hk za t ht]at hx;obtain⟨p,rfl,hp,a1,a2,a3⟩:=(ih (zero&&decide (c=0)) (c::t) (by omega) (by simp[ht];omega) g1 (fun hh=>by
    simp only[Bool.and_eq_true,decide_eq_true_eq]at hh;intro y hy;rcases mem_cons.1 hy with rfl|hy
    ·exact hh.2
    ·exact hz hh.1 y hy)).1 hx
   refine⟨p++[c],by simp,by simp[hp],a1,a2,fun hzz=>?_⟩;rw[zgM];have:=g2 hzz;rcases(by omega:0<c∨c=0) with h|h
   ·exact .inl h
   ·exact .inr ⟨h,a3 (by simp[hzz,h])⟩
  ·rintro⟨p,rfl,hp,g1,g2,g3⟩;obtain⟨q,c,rfl,hq⟩:=zcb hp;have e:q++[c]++t=q++c::t:=by simp
   have hs:=zgN hr za q 0 (c::t) (by omega) (by rw[<-e];exact g1);rw[Nat.zero_add,hq]at hs;have hc0:zero=true->0<c∨(c=0/\qt q):=fun hzz=>(zgM q c).1 (g3 hzz)
   obtain⟨j,hj,hc⟩:=(zbe hr hb zero t hk ht h0 hz c).2 ⟨hs,fun hzz=>by rcases hc0 hzz with h|h<;>omega⟩;refine⟨j,hj,?_⟩;rw[hc,QG hr hk za t ht];refine(ih (zero&&decide (c=0)) (c::t) (by omega) (by simp[ht];omega) hs (fun hh=>?_)).2 ⟨q,e,hq,g1,g2,fun hh=>?_⟩
   ·simp only[Bool.and_eq_true,decide_eq_true_eq]at hh;intro y hy;rcases mem_cons.1 hy with rfl|hy
    ·exact hh.2
    ·exact hz hh.1 y hy
   ·simp only[Bool.and_eq_true,decide_eq_true_eq]at hh;rcases hc0 hh.1 with h|h
    ·omega
    ·exact h.2
theorem zgO(hr:RedOK m)(hb:0<=za)(exact:Bool)(k:Nat):∀(zero:Bool)(t:List Int),k<m.length->t.length=m.length-1-k->0<=left (ent m) za (k+1) t->(zero=true->∀x∈t,x=0)->
  (Zy (zm m m.length) (zr m m.length) exact k (left (ent m) za (k+1) t) zero t).Nodup:=by
 induction k with
 |zero=>
  intro zero t hk ht h0 hz;simp only[Zy];unfold List.Nodup;rw[List.pairwise_flatMap];refine⟨fun j _=>by split<;>simp,?_⟩;refine List.Pairwise.imp_of_mem ?_ nodup_range;grind
 |succ k ih=>
  intro zero t hk ht h0 hz;simp only[Zy];unfold List.Nodup;rw[List.pairwise_flatMap];have zuh:∀(j:Nat),j<jH (zm m m.length) (zr m m.length) (k+1) (left (ent m) za (k+1+1) t) zero t->∀c,Z5 (zm m m.length) (zr m m.length) (k+1) (left (ent m) za (k+1+1) t) zero t+(j:Int)=c->0<=left (ent m) za (k+1) (c::t)/\((zero&&decide (c=0))=true->∀x∈c::t,x=0):=by
   intro j hj c hc;obtain⟨g1,g2⟩:=(zbe hr hb zero t hk ht h0 hz c).1 ⟨j,hj,hc⟩;grind
  refine⟨fun j hj=>?_,?_⟩
  ·obtain⟨c,hc⟩:∃c,Z5 (zm m m.length) (zr m m.length) (k+1) (left (ent m) za (k+1+1) t) zero t+(j:Int)=c:=⟨_,rfl⟩;obtain⟨g1,g2⟩:=zuh j (by simpa using hj) c hc;rw[hc,QG hr hk za t ht];exact ih _ (c::t) (by omega) (by simp[ht];omega) g1 g2
  ·refine List.Pairwise.imp_of_mem ?_ nodup_range;intro a b ha hb' hab x hx y hy;obtain⟨c,hc⟩:∃c,Z5 (zm m m.length) (zr m m.length) (k+1) (left (ent m) za (k+1+1) t) zero t+(a:Int)=c:=⟨_,rfl⟩;obtain⟨d,hd⟩:∃d,Z5 (zm m m.length) (zr m m.length) (k+1) (left (ent m) za (k+1+1) t) zero t+(b:Int)=d:=⟨_,rfl⟩;obtain⟨g1,g2⟩:=zuh a (by simpa using ha) c hc;obtain⟨g3,g4⟩:=zuh b (by simpa using hb') d hd
   rw[hc,QG hr hk za t ht]at hx;rw[hd,QG hr hk za t ht]at hy;obtain⟨p,rfl,hp,_⟩:=(zcc hr hb exact x k _ (c::t) (by omega) (by simp[ht];omega) g1 g2).1 hx;obtain⟨q,hyq,hq,_⟩:=(zcc hr hb exact y k _ (d::t) (by omega) (by simp[ht];omega) g3 g4).1 hy;intro e;rw[hyq]at e;have:=List.append_inj_right e (by omega);injection this with e1
   omega
theorem zdK:∀l m:List Int,zG l m=zG m l
 |[],[]=>rfl
 |[],_::_=>rfl
 |_::_,[]=>rfl
 |a::l,b::m=>by simp only[zG];rw[zdK l m,Int.mul_comm]
theorem zgP(hn:AllLen m n)(hi:i<m.length)(x:List Int)(hx:x.length=n):zG (m.getD i []) x=ZW (ent m i) 0 x:=by
 have hl:(m.getD i []).length=n:=by
  have:m[i].length=n:=hn _ (List.getElem_mem _);grind
 exact zca _ x 0 _ (by omega) (fun j _=>by simp[ent])
theorem zbf(hn:AllLen m m.length)(x:List Int)(hx:x.length=m.length):zg m x=qE (ent m) 0 x:=by
 unfold zg qE jJ;rw[zdK];refine zca _ x 0 _ (by simp[zU,hx]) (fun i hi=>?_);have hi':i<m.length:=by omega
 have:(zU m x).getD i 0=zG (m.getD i []) x:=by simp[zU,hi']
 rw[this,zgP hn hi' x hx,Nat.zero_add];rfl
theorem jK(hn:AllLen m m.length)(za:Int)(x:List Int)(hx:x.length=m.length):left (ent m) za 0 x=za-zg m x:=by
 rw[zbf hn x hx];show 1*za-_=_;omega
theorem zmG(h1:1<=h)(hb:0<=za)(exact:Bool)(x:List Int):x∈Qg h za exact (zv (za / h).toNat)↔∃c:Int,x=[c]/\1<=c/\h*c*c<=za/\(exact=true->h*c*c=za):=by
 obtain⟨h2,h3⟩:=zdt h1 hb;obtain⟨r,hr⟩:=Xz (zv (za / h).toNat);rw[<-hr]at h2 h3|-
 simp only[Qg,mem_map,List.mem_filter,mem_range];constructor
 ·rintro⟨i,⟨hi,hp⟩,rfl⟩;refine⟨(i:Int)+1,rfl,by omega,h2 _ (by omega) (by omega),fun he=>?_⟩;grind
 ·rintro⟨c,rfl,c1,c2,c3⟩;have hc:c<=r:=by
   rcases Int.lt_or_le (r:Int) c with hlt|hle
   ·have e1:h*((r:Int)+1)<=h*c:=Int.mul_le_mul_of_nonneg_left (by omega) (by omega);have e2:h*((r:Int)+1)*((r:Int)+1)<=h*c*c:=Int.mul_le_mul e1 (by omega) (by omega) (Int.mul_nonneg (by omega) (by omega));omega
   grind
  refine⟨(c-1).toNat,⟨by omega,?_⟩,by grind⟩;grind
theorem JT(hr:RedOK m)(hb:0<=za)(exact:Bool)(x:List Int):x∈Zz m za exact↔x.length=m.length/\qt x/\zg m x<=za/\(exact=true->zg m x=za):=by
 have zr9:=qh hr.small;have hl:=Qy hr.small;unfold Zz;split
 ·rename_i h1
  have hd:1<=ent m 0 0:=by
   have:=qN (m:=ent m) hr.pos (k:=0) (by omega);exact this
  rw[zmG hd hb];have hn:∀c:Int,zg m [c]=ent m 0 0*c*c:=fun c=>by
   rw[zbf zr9 [c] (by simp[h1])];simp only[qE,jJ,ZW,E];grind
  constructor
  ·rintro⟨c,rfl,c1,c2,c3⟩;rw[hn];exact⟨by simp[h1],.inr ⟨by simp,by omega⟩,c2,c3⟩
  ·rintro⟨a1,a2,a3,a4⟩;obtain⟨c,rfl⟩:∃c,x=[c]:=by
    match x,a1 with
    |[c],_=>exact⟨c,rfl⟩
    |[],h=>simp at h;omega
    |_::_::_,h=>simp at h;omega
   rw[hn]at a3 a4;have:0<c:=by
    rcases a2 with h|⟨_,h⟩
    ·exact absurd h (by simp[qt])
    ·exact h
   exact⟨c,rfl,by omega,a3,a4⟩
 ·have e:vD (zm m m.length) m.length*za=left (ent m) za (m.length-1+1) []:=by
   rw[show m.length-1+1=m.length by omega,zbc,qp Zr]
  rw[e,zcc hr hb exact x (m.length-1) true [] (by omega) (by simp) ?_ (by simp)]
  ·constructor
   ·rintro⟨p,rfl,hp,a1,a2,a3⟩;simp only[List.append_nil]at a1 a2|-
    have hpl:p.length=m.length:=by omega
    rw[jK zr9 za p hpl]at a1 a2;grind
   ·rintro⟨a1,a2,a3,a4⟩;rw[jK zr9 za x a1];grind
  ·rw[<-e];have:=qp (m:=m) (k:=m.length) Zr;rw[this];exact Int.mul_nonneg (Int.le_of_lt (ZV hr.pos Zr)) hb
theorem jL(hr:RedOK m)(hb:0<=za)(hb1:za<1073741824)(t:List Int):∀k,k<m.length->t.length=m.length-1-k->0<=left (ent m) za (k+1) t->LevOK (zm m m.length) m.length za k (left (ent m) za (k+1) t) t:=by
 have zsm:=jj (qh hr.small) (fun i j hi hj=>((of_decide_eq_true hr.small).2.2.2 i hi j hj).1);induction t with
 |nil=>
  intro k hk ht h0;have e:k+1=m.length:=by grind
  refine⟨hk,h0,?_,ht,by simp[z8]⟩;rw[zbc,e,qp Zr];grind
 |cons c t ih=>
  intro k hk ht h0;simp only[length_cons]at ht;have h1:=zdI zsm (hr.pos.le (by omega:k+1+1<=m.length)) za c t h0;have h2:=ih (k+1) (by omega) (by omega) h1;have h3:=(jY hr (by omega:k+1<m.length) t (by omega) h1 c).2 h0;have h4:=LevOK.next (hr.num hb hb1) h2 h3.1 h3.2;rwa [QG hr (by omega) za t (by omega)]at h4
theorem zmH(hr:RedOK m)(t:List Int):∀k,k+t.length<=m.length->0<=qE (ent m) k t:=by
 have zsm:=jj (qh hr.small) (fun i j hi hj=>((of_decide_eq_true hr.small).2.2.2 i hi j hj).1);induction t with
 |nil=>intro k _;exact Int.le_refl _
 |cons c t ih=>
  intro k hk;simp only[length_cons]at hk;have h1:=ih (k+1) (by omega);have h2:=zdG zsm (hr.pos.le (by omega:k+1<=m.length)) c t;have h3:=ZV hr.pos (by omega:k<=m.length);have h4:=ZV hr.pos (by omega:k+1<=m.length);have h5:=Int.mul_nonneg (Int.le_of_lt h3) h1;have h6:=zgL (lE (ent m) k (c::t));rcases Int.lt_or_le (qE (ent m) k (c::t)) 0 with h7|h7
  ·have:=Int.mul_neg_of_pos_of_neg h4 h7;omega
  grind
theorem zbg(hr:RedOK m)(x:List Int)(hx:x.length=m.length):0<=zg m x:=by
 rw[zbf (qh hr.small) x hx];exact zmH hr x 0 (by omega)
theorem zdL(hr:RedOK m)(hb:0<=za)(hb1:za<1073741824)(x:List Int)(hx:x.length=m.length)(hn:zg m x<=za):z8 x<=1099511627776:=by
 have zr9:=qh hr.small;have hl:=Qy hr.small;have zsm:=jj (qh hr.small) (fun i j hi hj=>((of_decide_eq_true hr.small).2.2.2 i hi j hj).1);have h0:0<=left (ent m) za 0 x:=by rw[jK zr9 za x hx];omega
 cases x with
 |nil=>grind
 |cons c t=>
  simp only[length_cons]at hx;have h1:=zdI zsm (hr.pos.le (by omega:0+1<=m.length)) za c t h0;have h2:=jL hr hb hb1 t 0 (by omega) (by omega) h1;have h3:=(jY hr (by omega:0<m.length) t (by omega) h1 c).2 h0;have hN:=hr.num hb hb1;have h4:=JP hN h2;have h5:=jX hN h2;have h6:=jW hN h2;simp only[z8];omega
theorem zgQ(h:z8 x<=1099511627776):QC x=true:=by
 unfold QC;rw[List.all_eq_true];intro y hy;obtain⟨i,hi⟩:=List.getElem?_of_mem hy;have:=JO x i y hi;grind
theorem zgR(h:zI x=0):∀y∈x,y=0:=by
 induction x with
 |nil=>simp
 |cons a x ih=>
  simp only[zI]at h;grind
theorem zao(h:qt x):¬∀y∈x,y=0:=by
 induction x with
 |nil=>exact absurd h (by simp[qt])
 |cons a x ih=>
  intro hz;rcases h with h|⟨_,h⟩
  ·grind
  simp_all
theorem zdM(h:qt x):¬qt (x.map fun c=>-c):=by
 induction x with
 |nil=>exact absurd h (by simp[qt])
 |cons a x ih=>
  rintro(h2|⟨h2,h3⟩)
  ·rcases h with h|⟨h,_⟩
   ·grind
   ·exact zao h2 (fun y hy=>by grind)
  ·rcases h with h|⟨_,h⟩
   ·exact zao h (fun y hy=>by
     have:=h2 (-y) (mem_map.2 ⟨y,hy,rfl⟩);omega)
   grind
theorem zgS(h:¬∀y∈x,y=0):qt x∨qt (x.map fun c=>-c):=by
 induction x with
 |nil=>grind
 |cons a x ih=>
  by_cases hx:∀y∈x,y=0
  ·have ha:a≠0:=fun ha=>h (fun y hy=>by grind)
   rcases(by omega:0<a∨0< -a) with h1|h1
   ·exact .inl (.inr ⟨hx,h1⟩)
   ·refine .inr (.inr ⟨fun y hy=>?_,h1⟩);grind
  ·rcases ih hx with h1|h1
   ·exact .inl (.inl h1)
   ·exact .inr (.inl h1)
theorem zap(x:List Int):(x.map fun c=>-c).map (fun c=>-c)=x:=by
 induction x with
 |nil=>rfl
 |cons a x ih=>grind
theorem zmI{y:List Int}(hx:qt x)(hy:qt y)(h:zS x=zS y):x=y:=by
 unfold zS at h;split at h<;>split at h
 ·have:=congrArg (List.map fun c=>-c) h;rwa [zap,zap]at this
 ·rw[<-h]at hy;exact absurd hy (zdM hx)
 ·rw[h]at hx;exact absurd hx (zdM hy)
 grind
theorem zgT(x:List Int):zI (x.map fun c=>-c)=-zI x:=by
 induction x with
 |nil=>rfl
 |cons a x ih=>
  simp only[map_cons,zI];grind
theorem zgU(x:List Int)(h:zI x≠0):0<zI (zS x):=by
 unfold zS;split
 ·rw[zgT];omega
 grind
theorem zgV(hr:RedOK m)(hb:0<=za)(exact:Bool):(Zz m za exact).Nodup:=by
 have hl:=Qy hr.small;unfold Zz;split
 ·unfold Qg;unfold List.Nodup;rw[List.pairwise_map];refine List.Pairwise.imp ?_ (List.Pairwise.filter _ nodup_range);grind
 ·have e:vD (zm m m.length) m.length*za=left (ent m) za (m.length-1+1) []:=by
   rw[show m.length-1+1=m.length by omega,zbc,qp Zr]
  rw[e];refine zgO hr hb exact (m.length-1) true [] (by omega) (by simp) ?_ (by simp);rw[<-e,qp Zr];exact Int.mul_nonneg (Int.le_of_lt (ZV hr.pos Zr)) hb
theorem zmJ(hr:RedOK m)(hb:0<=za)(exact:Bool):((Zz m za exact).map zS).Nodup:=by
 unfold List.Nodup;rw[List.pairwise_map];refine List.Pairwise.imp_of_mem ?_ (zgV hr hb exact);intro a b ha hb' hab e;exact hab (zmI ((JT hr hb exact a).1 ha).2.1 ((JT hr hb exact b).1 hb').2.1 e)
theorem zmK(hr:RedOK m)(hb:0<=za)(hb1:za<1073741824)(exact:Bool)(x:List Int)(hx:x∈Zz m za exact):VecOK m x:=by
 obtain⟨h1,h2,h3,_⟩:=(JT hr hb exact x).1 hx;have h4:=zgQ (zdL hr hb hb1 x h1 h3);refine⟨by simp[je,h1,h4],?_,?_⟩
 ·have:=zbg hr x h1;simp only[QW,decide_eq_true_eq];omega
 ·simp only[jF,h4,Bool.true_and,Bool.not_eq_true',decide_eq_false_iff_not];intro e;exact zao h2 (zgR e)
theorem zdN(h:ZH m=true):RedM m:=by
 have hr:=qA h;refine⟨h,qh hr.small,fun r hr' x hx=>?_,(Qy hr.small).2⟩;obtain⟨i,j,hi,hj,rfl⟩:=zgz (qh hr.small) hr' hx;have:=((of_decide_eq_true hr.small).2.2.2 i hi j hj).2;omega
structure VecList(m:List (List Int))(za:Int)(exact:Bool)(L:List (List Int)):Prop where
 sorted:L.Pairwise (fun x y=>qM (zg m x) (zg m y) x y<0)
 mem:∀x,x∈L↔x.length=m.length/\0<zI x/\zg m x<=za/\(exact=true->zg m x=za)
theorem zmL(hr:RedOK m)(hb:0<=za)(hp:L.Perm ((Zz m za exact).map zS))(hw:L.Pairwise (fun x y=>qM (zg m x) (zg m y) x y<0)):VecList m za exact L:=by
 refine⟨hw,fun x=>?_⟩;rw[hp.mem_iff,mem_map];constructor
 ·rintro⟨y,hy,rfl⟩;obtain⟨h1,h2,h3,h4⟩:=(JT hr hb exact y).1 hy;rw[zgj,Jj];exact⟨h1,zgU y (fun e=>zao h2 (zgR e)),h3,h4⟩
 ·rintro⟨h1,h2,h3,h4⟩;have hne:¬∀y∈x,y=0:=fun hz=>by
   have:zI x=0:=by
    clear h1 h2 h3 h4;induction x with
    |nil=>rfl
    |cons a x ih=>
     have ha:=hz a (by simp);simp only[zI];grind
   omega
  rcases zgS hne with h5|h5
  ·refine⟨x,(JT hr hb exact x).2 ⟨h1,h5,h3,h4⟩,?_⟩;unfold zS;grind
  ·refine⟨x.map fun c=>-c,(JT hr hb exact _).2 ⟨by grind,h5,by rw[zba];grind,by rw[zba];grind⟩,?_⟩;unfold zS;rw[zgT,if_pos (by omega),zap]
theorem zgW(m:List (List Int))(x y:List Int)(h:qM (zg m x) (zg m y) x y<0):¬qM (zg m y) (zg m x) y x<0:=by
 rw[zge]at h|-
 rw[Jh];omega
theorem VecList.nodup(h:VecList m za exact L):L.Nodup:=by
 refine List.Pairwise.imp ?_ h.sorted;intro a b hab e;subst e;exact zgW m a a hab hab
theorem VecList.unique{T:List (List Int)}(h:VecList m za exact L)(h':VecList m za exact T):L=T:=by
 have hp:=(List.perm_ext_iff_of_nodup h.nodup h'.nodup).2 fun x=>(h.mem x).trans (h'.mem x).symm
 exact List.Perm.eq_of_pairwise (fun a b _ _ h1 h2=>absurd h2 (zgW m a b h1)) h.sorted h'.sorted hp
def zJ:List (Int×Int)->Int
 |[]=>0
 |p::ys=>p.2+zJ ys
def zW:List (Int×Int)->Nat->Int
 |[],_=>0
 |p::ys,i=>(if (p.1-1).toNat=i then p.2 else 0)+zW ys i
theorem zdO(a b:List (Int×Int)):zJ (a++b)=zJ a+zJ b:=by
 induction a with
 |nil=>simp[zJ]
 |cons p a ih=>simp only[cons_append,zJ];omega
theorem zdP(a b:List (Int×Int))(i:Nat):zW (a++b) i=zW a i+zW b i:=by
 induction a with
 |nil=>simp[zW]
 |cons p a ih=>simp only[cons_append,zW];omega
theorem zmM(F:Nat->List (Int×Int))(l:List Nat):zJ (l.flatMap F)=(l.map fun j=>zJ (F j)).sum:=by
 induction l with
 |nil=>rfl
 |cons j l ih=>simp only[List.flatMap_cons,zdO,ih,map_cons,sum_cons]
theorem zgX(F:Nat->List (Int×Int))(i:Nat)(l:List Nat):zW (l.flatMap F) i=(l.map fun j=>zW (F j) i).sum:=by
 induction l with
 |nil=>rfl
 |cons j l ih=>simp only[List.flatMap_cons,zdP,ih,map_cons,sum_cons]
theorem zmN{l:List Nat}{B:Int}(h:∀j∈l,g j<=B):(l.map g).sum<=(l.length:Int)*B:=by
 induction l with
 |nil=>simp
 |cons j l ih=>
  have h1:=ih (fun x hx=>h x (by grind));have h2:=h j (by simp);simp only[map_cons,sum_cons,length_cons,Int.natCast_add,Int.add_mul];omega
theorem zgY{l:List Nat}(h:∀j∈l,0<=g j):0<=(l.map g).sum:=by
 induction l with
 |nil=>simp
 |cons j l ih=>
  grind
theorem zmO{l:List Nat}(h:∀j∈l,0<=g j){a:Nat}(ha:a∈l):g a<=(l.map g).sum:=by
 induction l with
 |nil=>grind
 |cons j l ih=>
  have h0:=zgY (fun x hx=>h x (List.mem_cons_of_mem j hx));grind
theorem zmP(n:Nat)(ys:List (Int×Int)):∀(left:Int)(st:List Int),(∀p∈ys,0<=p.2/\1<=p.1/\p.1<=n)->0<=left->st.length=n->
  QV ys left st=if zJ ys<=left then some (left-zJ ys,(List.range n).map fun i=>st.getD i 0+zW ys i) else none:=by
 induction ys with
 |nil=>
  intro left st _ h0 hl;rw[if_pos (show zJ []<=left from h0)];have e1:left-zJ []=left:=by simp only[zJ];omega
  have e2:(List.range n).map (fun i=>st.getD i 0+zW [] i)=st:=by
   refine List.ext_getElem (by simp[hl]) fun i h1 h2=>?_
   simp[List.getD,h2,zW]
  rw[e1,e2];rfl
 |cons p ys ih=>
  obtain⟨len,cnt⟩:=p;intro left st hp h0 hl;have hp0:=hp (len,cnt) (by simp);simp only at hp0;have ztz:0<=zJ ys:=by
   have:∀l:List (Int×Int),(∀p∈l,0<=p.2)->0<=zJ l:=fun l hh=>by
    induction l with
    |nil=>simp[zJ]
    |cons q l ih2=>have a:=ih2 (fun p hp=>hh p (by simp[hp]));have b:=hh q (by simp);simp only[zJ];omega
   exact this ys (fun p hp'=>(hp p (by simp[hp'])).1)
  have htc:zJ ((len,cnt)::ys)=cnt+zJ ys:=rfl;simp only[QV];split
  ·rw[if_neg (by omega)]
  ·rw[ih (left-cnt) _ (fun p hp'=>hp p (by simp[hp'])) (by omega) (by simpa using hl)];by_cases h:zJ ys<=left-cnt
   ·rw[if_pos h,if_pos (by omega)];have e1:left-cnt-zJ ys=left-zJ ((len,cnt)::ys):=by omega
    rw[e1];congr 2
    ·refine List.map_congr_left fun i hi=>?_
     have hi':i<n:=by simpa using hi
     simp only[zW,List.getD_eq_getElem?_getD,List.getElem?_set];grind
   ·rw[if_neg h,if_neg (by omega)]
section
variable {m:List (List Int)} {za:Int}
theorem JU(hr:RedOK m)(hb:0<=za):0<=left (ent m) za (m.length-1+1) []:=by
 have hl:=Qy hr.small;rw[show m.length-1+1=m.length by omega,zbc];exact Int.mul_nonneg (Int.le_of_lt (ZV hr.pos Zr)) hb
theorem zgZ(hr:RedOK m):vD (zm m m.length) m.length*za=left (ent m) za (m.length-1+1) []:=by
 have hl:=Qy hr.small;rw[show m.length-1+1=m.length by omega,zbc,qp Zr]
theorem jZ(hr:RedOK m)(t:List Int)(hk:k<m.length)(ht:t.length=m.length-1-k)(h0:0<=left (ent m) za (k+1) t)(hj:j<(Zc (zm m m.length) (zr m m.length) k (left (ent m) za (k+1) t) t).toNat):
  0<=left (ent m) za k ((zY (zm m m.length) (zr m m.length) k (left (ent m) za (k+1) t) t+(j:Int))::t):=by
 refine(jY hr hk t ht h0 _).1 ?_;unfold Zc at hj;omega
theorem zdQ(hr:RedOK m)(hb:0<=za)(hb1:za<1073741824)(k:Nat):∀t:List Int,k<m.length->t.length=m.length-1-k->0<=left (ent m) za (k+1) t->
  ∀p∈ZB (zm m m.length) (zr m m.length) m.length k (left (ent m) za (k+1) t) t,0<=p.2/\1<=p.1/\p.1<=(m.length:Int):=by
 induction k with
 |zero=>
  intro t hk ht h0 p hp;simp only[ZB]at hp;have:=JQ (hr.num hb hb1) (jL hr hb hb1 t 0 hk ht h0);grind
 |succ k ih=>
  intro t hk ht h0 p hp;simp only[ZB,mem_cons,mem_flatMap,mem_range]at hp;rcases hp with rfl|⟨j,hj,hp⟩
  ·have:=JQ (hr.num hb hb1) (jL hr hb hb1 t (k+1) hk ht h0);grind
  ·have hk0:=jZ hr t hk ht h0 hj;rw[QG hr hk za t ht]at hp;grind
theorem zg0{ys:List (Int×Int)}(h:∀p∈ys,0<=p.2)(i:Nat):0<=zW ys i:=by
 induction ys with
 |nil=>simp[zW]
 |cons p ys ih=>
  simp only[zW];grind
theorem zmQ(hr:RedOK m)(hb:0<=za)(hb1:za<1073741824)(k:Nat):∀t:List Int,k<m.length->t.length=m.length-1-k->0<=left (ent m) za (k+1) t->
  zW (ZB (zm m m.length) (zr m m.length) m.length k (left (ent m) za (k+1) t) t) (m.length-1)=((Zy (zm m m.length) (zr m m.length) false k (left (ent m) za (k+1) t) false t).length:Int):=by
 induction k with
 |zero=>
  intro t hk ht h0;have:=JQ (hr.num hb hb1) (jL hr hb hb1 t 0 hk ht h0);simp only[ZB,zW,Zy,jh,Bool.false_and,Bool.not_false,Bool.and_self,if_true,List.length_flatMap];rw[if_pos (by omega)];have e:jH (zm m m.length) (zr m m.length) 0 (left (ent m) za (0+1) t) false t=(Zc (zm m m.length) (zr m m.length) 0 (left (ent m) za (0+1) t) t).toNat:=by rfl
  rw[e];simp only[length_cons,List.length_nil];rw[List.map_const',List.sum_replicate_nat];grind
 |succ k ih=>
  intro t hk ht h0;have e:jH (zm m m.length) (zr m m.length) (k+1) (left (ent m) za (k+1+1) t) false t=(Zc (zm m m.length) (zr m m.length) (k+1) (left (ent m) za (k+1+1) t) t).toNat:=by simp[jH,Z5,Zc]
  have e2:Z5 (zm m m.length) (zr m m.length) (k+1) (left (ent m) za (k+1+1) t) false t=zY (zm m m.length) (zr m m.length) (k+1) (left (ent m) za (k+1+1) t) t:=by simp[Z5]
  simp only[ZB,zW,Zy,Bool.false_and];rw[if_neg (by omega),zgX,e,e2];have key:∀l:List Nat,(∀j∈l,j<(Zc (zm m m.length) (zr m m.length) (k+1) (left (ent m) za (k+1+1) t) t).toNat)->
    (l.map fun j:Nat=>zW (ZB (zm m m.length) (zr m m.length) m.length k (qg (zm m m.length) (zr m m.length) (k+1) (left (ent m) za (k+1+1) t) t (zY (zm m m.length) (zr m m.length) (k+1) (left (ent m) za (k+1+1) t) t+(j:Int))) ((zY (zm m m.length) (zr m m.length) (k+1) (left (ent m) za (k+1+1) t) t+(j:Int))::t)) (m.length-1)).sum=
    ((l.flatMap fun j:Nat=>Zy (zm m m.length) (zr m m.length) false k (qg (zm m m.length) (zr m m.length) (k+1) (left (ent m) za (k+1+1) t) t (zY (zm m m.length) (zr m m.length) (k+1) (left (ent m) za (k+1+1) t) t+(j:Int))) false ((zY (zm m m.length) (zr m m.length) (k+1) (left (ent m) za (k+1+1) t) t+(j:Int))::t)).length:Int):=by
   intro l;induction l with
   |nil=>intro _;rfl
   |cons j l ihl=>
    intro hl;have hk0:=jZ hr t hk ht h0 (hl j (by simp));simp only[map_cons,sum_cons,List.flatMap_cons,List.length_append,Int.natCast_add];rw[ihl (fun x hx=>hl x (by simp[hx])),QG hr hk za t ht,ih _ (by omega) (by simp[ht];omega) hk0]
  grind
theorem zmR(hr:RedOK m)(hb:0<=za)(hb1:za<1073741824)(k:Nat):∀t:List Int,k<m.length->t.length=m.length-1-k->(∀x∈t,x=0)->∀i,m.length-1-k<=i->i<m.length->
  1<=zW (ZB (zm m m.length) (zr m m.length) m.length k (left (ent m) za (k+1) t) t) i:=by
 have zsT:∀(k:Nat)(t:List Int),k<m.length->t.length=m.length-1-k->(∀x∈t,x=0)->zY (zm m m.length) (zr m m.length) k (left (ent m) za (k+1) t) t<=0/\0<=Z4 (zm m m.length) (zr m m.length) k (left (ent m) za (k+1) t) t:=fun k t hk ht hz=>
  (jY hr hk t ht (zbd hr hb (by omega) t hz) 0).2 (zbd hr hb (by omega) (0::t) (fun x hx=>by
   rcases mem_cons.1 hx with rfl|hx
   ·rfl
   ·exact hz x hx))
 induction k with
 |zero=>
  intro t hk ht hz i h1 h2;have:=zsT 0 t hk ht hz;simp only[ZB,zW];rw[if_pos (by omega)];unfold Zc;omega
 |succ k ih=>
  intro t hk ht hz i h1 h2;have h0:=zbd hr hb (by omega:k+1+1<=m.length) t hz;have hc:=zsT (k+1) t hk ht hz;have hok:=zdQ hr hb hb1 (k+1) t hk ht h0;simp only[ZB,zW]at hok|-
  rw[zgX];have hnn:∀j∈List.range (Zc (zm m m.length) (zr m m.length) (k+1) (left (ent m) za (k+1+1) t) t).toNat,0<=zW (ZB (zm m m.length) (zr m m.length) m.length k (qg (zm m m.length) (zr m m.length) (k+1) (left (ent m) za (k+1+1) t) t (zY (zm m m.length) (zr m m.length) (k+1) (left (ent m) za (k+1+1) t) t+(j:Int))) ((zY (zm m m.length) (zr m m.length) (k+1) (left (ent m) za (k+1+1) t) t+(j:Int))::t)) i:=fun j hj=>
   zg0 (fun p hp=>(hok p (List.mem_cons_of_mem _ (mem_flatMap.2 ⟨j,hj,hp⟩))).1) i
  by_cases e:i=m.length-1-(k+1)
  ·rw[if_pos (by omega)];have:=zgY hnn;unfold Zc at this|-
   omega
  ·rw[if_neg (by omega)];obtain⟨j,hj⟩:∃j:Nat,zY (zm m m.length) (zr m m.length) (k+1) (left (ent m) za (k+1+1) t) t+(j:Int)=0:=⟨(-zY (zm m m.length) (zr m m.length) (k+1) (left (ent m) za (k+1+1) t) t).toNat,by omega⟩;have h3:=zmO hnn (a:=j) (by simp only[mem_range];unfold Zc;omega);rw[hj,QG hr hk za t ht]at h3;grind
theorem zmS(hr:RedOK m)(k:Nat):k<m.length->zB (ent m) k<=2^k*zB (ent m) (k+1):=by
 induction k with
 |zero=>
  intro hk;have:=ZV hr.pos (by omega:0+1<=m.length);show (1:Int)<=1*zB (ent m) (0+1);omega
 |succ k ih=>
  intro hk;have h1:=ih (by omega);have hL:=hr.lov k hk;have hs:=(of_decide_eq_true (hr.short k hk)).2.2 1 (by rw[ZU];omega) (by omega);have e1:ent (zo m k).2 1 0=E (ent m) k (k+1) k:=Z6 (i:=1) (j:=0) (by omega) (by omega);have e2:ent (zo m k).2 0 0=E (ent m) k k k:=Z6 (i:=0) (j:=0) (by omega) (by omega);rw[e1,e2]at hs;have p0:=ZV hr.pos (by omega:k<=m.length);have p1:0<E (ent m) k k k:=ZV hr.pos (by omega:k+1<=m.length)
  have p2:0<E (ent m) (k+1) (k+1) (k+1):=ZV hr.pos (by omega:k+1+1<=m.length);have h1':zB (ent m) k<=2^k*E (ent m) k k k:=h1;show E (ent m) k k k<=2^(k+1)*E (ent m) (k+1) (k+1) (k+1);obtain⟨x,hx⟩:=Yz (E (ent m) k k k);obtain⟨y,hy⟩:=Yz (E (ent m) k (k+1) k);obtain⟨u,hu⟩:=Yz (zB (ent m) k);obtain⟨v,hv⟩:=Yz (E (ent m) (k+1) (k+1) (k+1));rw[hx,hy,hu,hv]at hL;rw[hx,hy]at hs
  rw[hx]at p1 h1'|-
  rw[hu]at p0 h1';rw[hv]at p2|-
  have q:=Int.mul_nonneg (show 0<=x-2*y by omega) (show 0<=x+2*y by omega);have q2:(x-2*y)*(x+2*y)=x*x-4*(y*y):=by grind
  rw[q2]at q;have q3:x*x<=2*(u*v):=by grind
  have q4:u*v<=2^k*x*v:=Int.mul_le_mul_of_nonneg_right h1' (by omega);have q5:x*x<=x*(2^(k+1)*v):=by
   have:x*(2^(k+1)*v)=2*(2^k*x*v):=by grind
   omega
  simp_all
theorem zmT(hr:RedOK m)(hb:0<=za)(hb1:za<1073741824)(t:List Int)(hk:k<m.length)(ht:t.length=m.length-1-k)(h0:0<=left (ent m) za (k+1) t){c:Int}(hc:1<=c)(h:c<=Zc (zm m m.length) (zr m m.length) k (left (ent m) za (k+1) t) t):(c-1)*(c-1)<=4*(2^k*za):=by
 have hN:=hr.num hb hb1;have zty:=jL hr hb hb1 t k hk ht h0;obtain⟨r0,_,r2⟩:=jW hN zty;have r1:=zty.r1;have hd:=ZV hr.pos (by omega:k+1<=m.length);have hd0:=ZV hr.pos (by omega:k<=m.length);unfold Zc Z4 zY at h;unfold ZK at r2;rw[qp (by omega)]at h r1 r2;obtain⟨d,hd'⟩:∃d,d=zB (ent m) (k+1):=⟨_,rfl⟩;obtain⟨e,he⟩:=Xz (zB (ent m) k);obtain⟨r,hr'⟩:∃r,r=vR (zm m m.length) k (left (ent m) za (k+1) t):=⟨_,rfl⟩
 obtain⟨s,hs⟩:=Xz (qK (zr m m.length) k t);obtain⟨R,hR⟩:=Xz (left (ent m) za (k+1) t);have hh:=zmS hr k hk;rw[<-hd',<-he]at hh;rw[<-hd']at hd h r1;rw[<-hR]at r0 r1 r2 h0 hr';rw[<-hR,<-hr',<-hs]at h;rw[<-hr']at r0 r2;have a1:=Int.mul_ediv_self_le (x:=r+s) (k:=d) (by omega);have a2:=Int.mul_ediv_self_le (x:=r-s) (k:=d) (by omega);-- d (c - 1) <= 2 r
 have b1:d*(c-1)<=2*r:=by
  have:d*(c-1)<=d*((r+s) / d+(r-s) / d):=Int.mul_le_mul_of_nonneg_left (by omega) (by omega);grind
 have b0:0<=d*(c-1):=Int.mul_nonneg (by omega) (by omega);have b2:d*(c-1)*(d*(c-1))<=2*r*(2*r):=Int.mul_le_mul b1 b1 b0 (by omega);have b3:e*R<=e*(d*za):=Int.mul_le_mul_of_nonneg_left r1 (by omega);have b4:e*(d*za)<=2^k*d*(d*za):=Int.mul_le_mul_of_nonneg_right hh (Int.mul_nonneg (by omega) hb);have b5:(d*d)*((c-1)*(c-1))<=(d*d)*(4*(2^k*za)):=by grind
 exact Int.le_of_mul_le_mul_left b5 (Int.mul_pos hd hd)
def j1(b:Nat):Nat->Nat
 |0=>zv (4*b)+1
 |k+1=>(zv (4*(2^(k+1)*b))+1)*(1+j1 b k)
theorem zg1(hr:RedOK m)(hb1:(b:Int)<1073741824)(t:List Int)(hk:k<m.length)(ht:t.length=m.length-1-k)(h0:0<=left (ent m) b (k+1) t):Zc (zm m m.length) (zr m m.length) k (left (ent m) b (k+1) t) t<=(zv (4*(2^k*b))+1:Nat):=by
 rcases Int.lt_or_le (Zc (zm m m.length) (zr m m.length) k (left (ent m) b (k+1) t) t) 1 with h|h
 ·omega
 ·have h1:=zmT hr (by omega) hb1 t hk ht h0 h (Int.le_refl _);obtain⟨c,hc⟩:∃c:Nat,Zc (zm m m.length) (zr m m.length) k (left (ent m) b (k+1) t) t-1=(c:Int):=⟨(Zc (zm m m.length) (zr m m.length) k (left (ent m) b (k+1) t) t-1).toNat,by omega⟩;have h2:c*c<=4*(2^k*b):=by grind
  have h3:=(Qe (4*(2^k*b))).2;have h4:=zaZ (Nat.lt_of_le_of_lt h2 h3);omega
theorem zmU(hr:RedOK m)(hb1:(b:Int)<1073741824)(k:Nat):∀t:List Int,k<m.length->t.length=m.length-1-k->0<=left (ent m) b (k+1) t->zJ (ZB (zm m m.length) (zr m m.length) m.length k (left (ent m) b (k+1) t) t)<=(j1 b k:Nat):=by
 induction k with
 |zero=>
  intro t hk ht h0;have:=zg1 hr hb1 t hk ht h0;simp only[ZB,zJ,j1];grind
 |succ k ih=>
  intro t hk ht h0;have h1:=zg1 hr hb1 t hk ht h0;have h2:=JQ (hr.num (by omega) hb1) (jL hr (by omega) hb1 t (k+1) hk ht h0);simp only[ZB,zJ,j1];rw[zmM];have h3:=zmN (l:=List.range (Zc (zm m m.length) (zr m m.length) (k+1) (left (ent m) b (k+1+1) t) t).toNat) (B:=((j1 b k:Nat):Int))
   (g:=fun j=>zJ (ZB (zm m m.length) (zr m m.length) m.length k (qg (zm m m.length) (zr m m.length) (k+1) (left (ent m) b (k+1+1) t) t (zY (zm m m.length) (zr m m.length) (k+1) (left (ent m) b (k+1+1) t) t+(j:Int))) ((zY (zm m m.length) (zr m m.length) (k+1) (left (ent m) b (k+1+1) t) t+(j:Int))::t)))
   (fun j hj=>by
    have hk0:=jZ hr t hk ht h0 (j:=j) (by grind);rw[QG hr hk b t ht];grind)
  obtain⟨c,hc⟩:∃c:Nat,Zc (zm m m.length) (zr m m.length) (k+1) (left (ent m) b (k+1+1) t) t=(c:Int):=⟨(Zc (zm m m.length) (zr m m.length) (k+1) (left (ent m) b (k+1+1) t) t).toNat,by omega⟩;have h5:c*(1+j1 b k)<=(zv (4*(2^(k+1)*b))+1)*(1+j1 b k):=Nat.mul_le_mul_right _ (by omega);grind
end
theorem zmV(n a:Nat)(c:Int)(h:a<n):((List.range n).map fun i=>if a=i then c else 0).sum=c:=by
 induction n with
 |zero=>omega
 |succ n ih=>
  rw[List.range_succ,List.map_append,List.sum_append];by_cases e:a=n
  ·have:∀l:List Nat,(∀i∈l,i<n)->(l.map fun i=>if a=i then c else 0).sum=0:=fun l hl=>by
    induction l with
    |nil=>rfl
    |cons i l ih2=>
     grind
   grind
  grind
theorem zg2(l:List Nat)(f g:Nat->Int):(l.map fun i=>f i+g i).sum=(l.map f).sum+(l.map g).sum:=by
 induction l with
 |nil=>rfl
 |cons i l ih=>grind
theorem zdR(n:Nat)(ys:List (Int×Int))(h:∀p∈ys,1<=p.1/\p.1<=(n:Int)):((List.range n).map (zW ys)).sum=zJ ys:=by
 induction ys with
 |nil=>
  have:∀l:List Nat,(l.map (zW [])).sum=0:=fun l=>by
   induction l with
   |nil=>rfl
   |cons i l ih=>rw[map_cons,sum_cons,ih];rfl
  exact this _
 |cons p ys ih=>
  have h1:=ih (fun q hq=>h q (by grind));have h2:=h p (by simp);have e:(zW (p::ys))=fun i=>(if (p.1-1).toNat=i then p.2 else 0)+zW ys i:=rfl
  rw[e,zg2,zmV n _ _ (by omega),h1];rfl
theorem zmW(hr:RedOK m)(hb:0<=za)(h2:2<=m.length):
  (Zy (zm m m.length) (zr m m.length) false (m.length-1) (left (ent m) za (m.length-1+1) []) false []).length=2*(Zz m za false).length+1:=by
 have zr9:=qh hr.small;have zsH:=JU hr hb;have hmemF:∀x,x∈Zy (zm m m.length) (zr m m.length) false (m.length-1) (left (ent m) za (m.length-1+1) []) false []↔x.length=m.length/\zg m x<=za:=fun x=>by
  rw[zcc hr hb false x (m.length-1) false [] (by omega) (by simp) zsH (by simp)];constructor
  ·rintro⟨p,rfl,hp,a1,_,_⟩;simp only[List.append_nil]at a1|-
   have hpl:p.length=m.length:=by omega
   rw[jK zr9 za p hpl]at a1;exact⟨hpl,by omega⟩
  ·rintro⟨a1,a2⟩;rw[jK zr9 za x a1];exact⟨x,by simp,by omega,by omega,by simp,by simp⟩
 have hnd:=zgO hr hb false (m.length-1) false [] (by omega) (by simp) zsH (by simp);have ztb:=JT hr hb false;have zuO:=zgV hr hb false;obtain⟨C,hC⟩:=Xz (Zz m za false);rw[<-hC]at ztb zuO|-
 have hz:qt (List.replicate m.length 0)->False:=fun h=>zao h (fun y hy=>List.eq_of_mem_replicate hy)
 have zwL:((List.replicate m.length 0)::(C++C.map (List.map fun c=>-c))).Nodup:=by
  refine List.nodup_cons.2 ⟨fun hh=>?_,List.nodup_append.2 ⟨zuO,?_,?_⟩⟩
  ·rcases List.mem_append.1 hh with hh|hh
   ·exact hz ((ztb _).1 hh).2.1
   ·obtain⟨y,hy,e⟩:=mem_map.1 hh;have hy2:=((ztb y).1 hy).2.1;exact zao hy2 (fun c hc=>by
     have:-c∈List.replicate m.length (0:Int):=by rw[<-e];exact mem_map.2 ⟨c,hc,rfl⟩
     have:=List.eq_of_mem_replicate this;omega)
  ·unfold List.Nodup;rw[List.pairwise_map];refine List.Pairwise.imp ?_ zuO;intro a b hab e;have:=congrArg (List.map fun c=>-c) e;rw[zap,zap]at this;exact hab this
  ·intro a ha b hb' e;obtain⟨y,hy,rfl⟩:=mem_map.1 hb';subst e;exact zdM ((ztb y).1 hy).2.1 ((ztb _).1 ha).2.1
 have hp:=(List.perm_ext_iff_of_nodup hnd zwL).2 fun x=>by
  rw[hmemF,mem_cons,List.mem_append,ztb];constructor
  ·rintro⟨a1,a2⟩;by_cases h0:∀y∈x,y=0
   ·exact .inl (List.eq_replicate_iff.2 ⟨a1,h0⟩)
   ·rcases zgS h0 with h|h
    ·exact .inr (.inl ⟨a1,h,a2,by simp⟩)
    ·refine .inr (.inr (mem_map.2 ⟨x.map fun c=>-c,(ztb _).2 ⟨by simpa using a1,h,by rw[zba];exact a2,by simp⟩,zap x⟩))
  ·rintro(rfl|⟨a1,_,a3,_⟩|hx)
   ·refine⟨by simp,?_⟩;have:=zbd hr hb (by omega:0<=m.length) (List.replicate m.length 0) (fun y hy=>List.eq_of_mem_replicate hy);rw[jK zr9 za _ (by simp)]at this;omega
   ·exact⟨a1,a3⟩
   ·obtain⟨y,hy,rfl⟩:=mem_map.1 hx;obtain⟨b1,_,b3,_⟩:=(ztb y).1 hy;rw[zba];exact⟨by simpa using b1,b3⟩
 have:=hp.length_eq;simp at this;omega
structure StepsOK(m:List (List Int))(za:Int)(st:List Int)(total:Int):Prop where
 spec:∀budget:Int,0<=budget->budget<=1000000->qL m za budget=if total<=budget then (st,0) else ([],9)
 len:st.length=m.length
 sum:st.sum=total
 one:∀x∈st,1<=x
 ze:qo st=2*(Zz m za false).length+1
theorem zmX(r:Nat):(Qg h za false r).length=r:=by
 unfold Qg;rw[List.length_map,List.filter_eq_self.2 (by simp),List.length_range]
theorem zdS(l:List Int)(h:∀x∈l,1<=x):(l.length:Int)<=l.sum:=by
 induction l with
 |nil=>simp
 |cons a l ih=>
  have:=h a (by simp);grind
def ZX(m:List (List Int))(b:Int):Int:=zJ (qz (zm m m.length) (zr m m.length) m.length b)
def qu(m:List (List Int))(b:Int):List Int:=(List.range m.length).map (zW (qz (zm m m.length) (zr m m.length) m.length b))
theorem zbh(h:ZH m=true)(hb1:(b:Int)<1073741824):StepsOK m b (qu m b) (ZX m b)/\(ZX m b<=(j1 b (m.length-1):Nat)∨(m.length=1/\ZX m b<=2*zv b+1)):=by
 have hr:=qA h;have hl:=Qy hr.small;have zwM:jD m b=false:=by simp[jD];omega
 obtain⟨ys,hys⟩:=Xz (qz (zm m m.length) (zr m m.length) m.length b);have e1:ZX m b=zJ ys:=by rw[hys];rfl
 have e2:qu m b=(List.range m.length).map (zW ys):=by rw[hys];rfl
 rw[e1,e2];have ztO:(∀p∈ys,0<=p.2/\1<=p.1/\p.1<=(m.length:Int))->∀budget:Int,0<=budget->budget<=1000000->qL m b budget=if zJ ys<=budget then ((List.range m.length).map (zW ys),0) else ([],9):=fun hok budget b0 b1=>by
  have zwN:jf b budget=true:=by simp[jf];omega
  unfold qL;rw[h,zwN,zwM];simp only[if_true,Bool.false_eq_true,if_false];unfold za6;rw[<-hys,zmP m.length ys budget _ hok b0 (by simp)];have e:((List.range m.length).map fun i=>(List.replicate m.length (0:Int)).getD i 0+zW ys i)=(List.range m.length).map (zW ys):=by
   refine List.map_congr_left fun i hi=>?_
   have hi':i<m.length:=by simpa using hi
   simp[List.getD,hi']
  rw[e];by_cases ht:zJ ys<=budget
  ·rw[if_pos ht,if_pos ht]
  ·rw[if_neg ht,if_neg ht]
 have zsD:∀F:Nat->Int,qo ((List.range m.length).map F)=F (m.length-1):=fun F=>by
  have:m.length-1<m.length:=by omega
  simp[qo,List.getD,this]
 by_cases h1:m.length=1
 ·have hy:ys=[(1,2*((zv ((b:Int) / vD (zm m m.length) 1).toNat:Nat):Int)+1)]:=by rw[hys];unfold qz;rw[if_pos h1]
  have hok:∀p∈ys,0<=p.2/\1<=p.1/\p.1<=(m.length:Int):=fun p hp=>by
   rw[hy]at hp;obtain rfl:p=_:=by simpa using hp
   simp only;omega
  have hd:vD (zm m m.length) 1=ent m 0 0:=by
   rw[qp (by omega)];rfl
  refine⟨⟨ztO hok,by simp,zdR _ ys (fun p hp=>(hok p hp).2),fun x hx=>?_,?_⟩,.inr ⟨h1,?_⟩⟩
  ·obtain⟨i,hi,rfl⟩:=mem_map.1 hx
   have hi':i=0:=by have :i<m.length:=by simpa using hi
                    omega
   subst hi';rw[hy];simp only[zW];rw[if_pos (by decide)];omega
  ·rw[zsD,hy,show m.length-1=0 by omega];simp only[zW];rw[if_pos (by decide)];have e:Zz m b false=Qg (ent m 0 0) b false (zv ((b:Int) / ent m 0 0).toNat):=by unfold Zz;rw[if_pos h1]
   rw[e,zmX,hd];omega
  ·rw[hy];simp only[zJ];have q:((b:Int) / vD (zm m m.length) 1).toNat<=b:=by
    rw[hd];have:=Int.ediv_le_self (a:=(b:Int)) (ent m 0 0) (by omega);omega
   have:zv ((b:Int) / vD (zm m m.length) 1).toNat<=zv b:=by
    obtain⟨s1,_⟩:=Qe ((b:Int) / vD (zm m m.length) 1).toNat;obtain⟨_,s2⟩:=Qe b;have:=zaZ (Nat.lt_of_le_of_lt (Nat.le_trans s1 q) s2);omega
   omega
 ·have hy:ys=ZB (zm m m.length) (zr m m.length) m.length (m.length-1) (left (ent m) b (m.length-1+1) []) []:=by
   rw[hys];unfold qz;rw[if_neg h1,zgZ hr]
  have zsH:=JU (za:=(b:Int)) hr (by omega);have hok:=zdQ hr (by omega) hb1 (m.length-1) [] (by omega) (by simp) zsH;rw[<-hy]at hok;refine⟨⟨ztO hok,by simp,zdR _ ys (fun p hp=>(hok p hp).2),fun x hx=>?_,?_⟩,.inl ?_⟩
  ·obtain⟨i,hi,rfl⟩:=mem_map.1 hx;have hi':i<m.length:=by simpa using hi
   rw[hy];exact zmR hr (by omega) hb1 (m.length-1) [] (by omega) (by simp) (by simp) i (by omega) hi'
  ·rw[zsD,hy,zmQ hr (by omega) hb1 (m.length-1) [] (by omega) (by simp) zsH,zmW hr (by omega) (by omega)];omega
  ·rw[hy];exact zmU hr hb1 (m.length-1) [] (by omega) (by simp) zsH
theorem StepsOK.last_le{st:List Int}{total:Int}(h:StepsOK m za st total)(h1:1<=m.length):qo st+(m.length-1:Nat)<=total:=by
 have hl:=h.len;have hs:=h.sum;obtain⟨p,c,rfl,hp⟩:=zcb (p:=st) (k:=m.length-1) (by omega);have e:qo (p++[c])=c:=by simp[qo]
 have h2:=zdS p (fun x hx=>h.one x (by grind));grind
theorem zmY(h:ZH m=true)(hb1:(b:Int)<1073741824)(exact:Bool)(zr7:(Zz m b exact).length<=1073741824):EnumOK m b exact:=by
 have hr:=qA h;refine⟨hr.form,hr.s64,zdN h,by omega,fun _=>hb1,fun h1=>?_,zr7,fun x hx=>zmK hr (by omega) hb1 exact x hx,zmJ hr (by omega) exact⟩;have q:((b:Int) / ent m 0 0).toNat<=b:=by
  have:=Int.ediv_le_self (a:=(b:Int)) (ent m 0 0) (by omega);omega
 obtain⟨s1,_⟩:=Qe ((b:Int) / ent m 0 0).toNat;rcases Zl (zv ((b:Int) / ent m 0 0).toNat) 1048577 with h2|h2
 ·omega
 ·have:=Nat.mul_le_mul h2 h2;omega
end
section
open Go.RowKit
def RowI(w:World)(b:Nat)(zs:List Int):Prop:=∃cs:List Value,VRow w b 149 cs/\zs.length*2<=cs.length/\VsOf w cs zs
section
variable {w w':World} {b:Nat} {zs:List Int}
theorem VsOf.map{vs:List Value}(h:VsOf w vs zs)(hk:∀{g:Bool}{B:Option Addr}{n c:Nat}{z:Int},IntV w g B n c z->IntV w' g B n c z):VsOf w' vs zs:=fun i z hz=>by
 obtain⟨g,B,n,c,a1,a2,a3⟩:=h i z hz;exact⟨g,B,n,c,a1,a2,hk a3⟩
theorem RowI.ext(h:RowI w b zs)(hx:Ext w w'):RowI w' b zs:=by
 obtain⟨cs,h1,h2,h3⟩:=h;exact⟨cs,h1.ext hx,h2,h3.map fun hz=>hz.ext hx⟩
theorem RowI.oth{T:TypeId}(h:RowI w b zs)(ho:Oth T w w')(h1:149≠T)(h2:271≠T):RowI w' b zs:=by
 obtain⟨cs,a1,a2,a3⟩:=h;exact⟨cs,ho _ _ _ _ h1 a1,a2,a3.map fun hz=>hz.oth ho h2⟩
theorem RowI.heap(h:RowI w b zs):∃cs,w.heap[b]? =some (.cells cs 149 (0,0)):=by
 obtain⟨cs,h1,_⟩:=h;exact⟨_,h1⟩
theorem RowI.lt(h:RowI w b zs):b<w.heap.size:=by
 obtain⟨cs,h1⟩:=h.heap;exact zF h1
theorem RowI.far(h:RowI w b zs){p:Addr}{fr:Nat×Nat}(hp:w.heap[p.block]? =some (.cells cs 149 fr))(hne:b≠p.block)(u:Value):RowI (w.setCell p u) b zs:=by
 obtain⟨cs,h1,h2,h3⟩:=h;exact⟨cs,h1.far hne u,h2,h3.map fun hz=>hz.setCell hp (by decide) u⟩
theorem RowI.far2(h:RowI w b zs){b':Nat}(hp:w.heap[b']? =some (.cells cs 149 (0,0)))(hne:b≠b')(u v:Value):RowI ((w.setCell ⟨b',i,none⟩ u).setCell ⟨b',j,none⟩ v) b zs:=
 (h.far (p:=⟨b',i,none⟩) hp hne u).far (p:=⟨b',j,none⟩) (Zo hp u) hne v
theorem RowI.intsV(h:RowI w b zs):IntsV w (some ⟨b,0,none⟩) zs:=by
 obtain⟨cs,h1,h2,h3⟩:=h;refine⟨cs.take (zs.length*2),by simp;omega,fun h0=>⟨b,0,cs.toArray,(0,0),rfl,h1,fun j u hu=>?_⟩,fun i z hz=>?_⟩
 ·rw[List.getElem?_take]at hu;split at hu
  ·simpa using hu
  ·cases hu
 ·have hi:i<zs.length:=(Zg.1 hz).1;obtain⟨g,B,n,c,a1,a2,a3⟩:=h3 i z hz;exact⟨g,B,n,c,by rw[List.getElem?_take,if_pos (by omega)];exact a1,by rw[List.getElem?_take,if_pos (by omega)];exact a2,a3⟩
theorem RowI.cells(h:RowI w b zs)(hz:zs[j]? =some z):∃g B n c,w.cell? ⟨b,j*2,none⟩=some (.bool g)/\w.cell? ⟨b,j*2+1,none⟩=some (.slice B n c)/\IntV w g B n c z/\w.frozen? ⟨b,j*2,none⟩=false/\w.frozen? ⟨b,j*2+1,none⟩=false:=by
 obtain⟨cs,h1,h2,h3⟩:=h;obtain⟨g,B,n,c,a1,a2,a3⟩:=h3 j z hz;exact⟨g,B,n,c,h1.cell a1,h1.cell a2,a3,h1.frozen _,h1.frozen _⟩
theorem RowI.set(h:RowI w b zs)(hj:j<zs.length){g:Bool}(hz:IntV w g B n c z):RowI ((w.setCell ⟨b,j*2,none⟩ (.bool g)).setCell ⟨b,j*2+1,none⟩ (.slice B n c)) b (zs.set j z):=by
 obtain⟨cs,h1,h2,h3⟩:=h;have key:∀{s':Bool}{B':Option Addr}{n' c':Nat}{z:Int},IntV w s' B' n' c' z->IntV ((w.setCell ⟨b,j*2,none⟩ (.bool g)).setCell ⟨b,j*2+1,none⟩ (.slice B n c)) s' B' n' c' z:=fun hz'=>
  (hz'.setCell (p:=⟨b,j*2,none⟩) h1 (by decide) _).setCell (p:=⟨b,j*2+1,none⟩) (h1.set _ _) (by decide) _
 refine⟨_,(h1.set (j*2) (.bool g)).set (j*2+1) (.slice B n c),by simp;omega,fun i y hy=>?_⟩;by_cases e:i=j
 ·subst e;rw[getElem?_set_self hj]at hy;injection hy with hy
  subst hy;refine⟨g,B,n,c,?_,?_,key hz⟩
  ·rw[getElem?_set_ne (by omega),getElem?_set_self (by omega)]
  ·rw[getElem?_set_self (by rw[length_set];omega)]
 ·rw[getElem?_set_ne (by omega)]at hy;obtain⟨g',B',n',c',a1,a2,a3⟩:=h3 i y hy;refine⟨g',B',n',c',?_,?_,key a3⟩
  ·rw[getElem?_set_ne (by omega),getElem?_set_ne (by omega)];exact a1
  ·rw[getElem?_set_ne (by omega),getElem?_set_ne (by omega)];exact a2
end
def ZI(n:Nat)(h:Nat×Nat):Value:= .slice (some ⟨h.1,0,none⟩) n h.2
structure OwnI(w:World)(lo g n:Nat)(hs:List (Nat×Nat))(a:List (List Int)):Prop where
 head:VRow w g 94 (hs.map (ZI n))
 glo:lo<=g
 len:hs.length=a.length
 dist:∀(i j:Nat)(p q:Nat×Nat),hs[i]? =some p->hs[j]? =some q->i≠j->p.1≠q.1
 new:∀h∈hs,lo<=h.1/\n<=h.2/\h.2<=9223372036854775807
 all:AllLen a n
 row:∀(i:Nat)(h:Nat×Nat)(r:List Int),hs[i]? =some h->a[i]? =some r->RowI w h.1 r
section
variable {w w':World} {lo g n:Nat} {hs:List (Nat×Nat)} {a:List (List Int)}
theorem OwnI.ext(h:OwnI w lo g n hs a)(hx:Ext w w'):OwnI w' lo g n hs a:=
 ⟨h.head.ext hx,h.glo,h.len,h.dist,h.new,h.all,fun i p r hp hr=>(h.row i p r hp hr).ext hx⟩
theorem OwnI.hdr(h:OwnI w lo g n hs a)(hi:i<a.length):∃b c,hs[i]? =some (b,c)/\w.cell? ⟨g,i,none⟩=some (.slice (some ⟨b,0,none⟩) n c)/\w.frozen? ⟨g,i,none⟩=false/\n<=c/\c<=9223372036854775807/\b<w.heap.size/\g<w.heap.size:=by
 have hi':i<hs.length:=by rw[h.len];exact hi
 obtain⟨⟨b,c⟩,hp⟩:∃p,hs[i]? =some p:=⟨_,Ze hi'⟩;obtain⟨r,hr⟩:∃r,a[i]? =some r:=⟨_,Ze hi⟩;have hn:=h.new _ (Zm hp);exact⟨b,c,hp,h.head.cell (by simp[hp,ZI]),h.head.frozen _,hn.2.1,hn.2.2,(h.row i _ r hp hr).lt,h.head.lt⟩
theorem zdT{r:List Int}(hr:m[i]? =some r)(hj:j<r.length):r[j]? =some (ent m i j):=by
 unfold ent;simp[hr,hj]
theorem OwnI.entry(h:OwnI w lo g n hs a)(hp:hs[i]? =some (b,c))(hi:i<a.length)(hj:j<n):∃s B k d,w.cell? ⟨b,j*2,none⟩=some (.bool s)/\w.cell? ⟨b,j*2+1,none⟩=some (.slice B k d)/\IntV w s B k d (ent a i j)/\w.frozen? ⟨b,j*2,none⟩=false/\w.frozen? ⟨b,j*2+1,none⟩=false:=by
 obtain⟨r,hr⟩:∃r,a[i]? =some r:=⟨_,Ze hi⟩;exact(h.row i _ r hp hr).cells (zdT hr (by rw[h.all r (Zm hr)];exact hj))
theorem OwnI.mat(h:OwnI w lo g n hs a):MatV w (some ⟨g,0,none⟩) a:=by
 refine⟨hs.map (ZI n),by simp[h.len],h.head.arr,fun i r hr=>?_⟩;have hi:i<a.length:=(Zg.1 hr).1;obtain⟨⟨b,c⟩,hp⟩:∃p,hs[i]? =some p:=⟨_,Ze (by rw[h.len];exact hi)⟩;have hn:=h.new _ (Zm hp);have hl:=h.all r (Zm hr);refine⟨some ⟨b,0,none⟩,c,by simp[hp,ZI,hl],(h.row i _ r hp hr).intsV,by rw[hl];exact hn.2.1,hn.2.2⟩
def Zf(a:List (List Int))(i j:Nat)(z:Int):List (List Int):=a.set i ((a.getD i []).set j z)
theorem zg3{a:List (List Int)}(hi:i<a.length)(hj:j<(a.getD i []).length)(x y:Nat):ent (Zf a i j z) x y=if x=i/\y=j then z else ent a x y:=by
 unfold ent Zf;by_cases hx:x=i
 ·subst hx;by_cases hy:y=j
  ·subst hy;simp only[List.getD_eq_getElem?_getD]at hj|-
   rw[getElem?_set_self hi,Option.getD_some,getElem?_set_self hj];simp
  ·simp only[List.getD_eq_getElem?_getD];rw[getElem?_set_self hi,Option.getD_some,getElem?_set_ne (by omega)];simp[hy]
 ·simp only[List.getD_eq_getElem?_getD];rw[getElem?_set_ne (by omega)];simp[hx]
theorem Jn(a:List (List Int))(i j:Nat)(z:Int):(Zf a i j z).length=a.length:=by simp[Zf]
theorem OwnI.set(h:OwnI w lo g n hs a)(hp:hs[i]? =some (b,c))(hi:i<a.length)(hj:j<n){s:Bool}{d:Nat}(hz:IntV w s B k d z):
  OwnI ((w.setCell ⟨b,j*2,none⟩ (.bool s)).setCell ⟨b,j*2+1,none⟩ (.slice B k d)) lo g n hs (Zf a i j z):=by
 obtain⟨r,hr⟩:∃r,a[i]? =some r:=⟨_,Ze hi⟩;have hR:=h.row i _ r hp hr;have hl:=h.all r (Zm hr);obtain⟨cs,hcs⟩:=hR.heap;have hgd:a.getD i []=r:=by simp[List.getD,hr]
 have hgb:g≠b:=fun e=>by
  have h1:=h.head;unfold VRow at h1;rw[e,hcs]at h1;injection h1 with h1
  injection h1 with _ h1
  exact absurd h1 (by decide)
 refine⟨(h.head.far (p:=⟨b,j*2,none⟩) hgb _).far (p:=⟨b,j*2+1,none⟩) hgb _,h.glo,by rw[Jn];exact h.len,h.dist,h.new,fun x hx=>?_,fun i' p' r' hp' hr'=>?_⟩
 ·rcases List.mem_or_eq_of_mem_set hx with hx|rfl
  ·exact h.all x hx
  ·rw[hgd,length_set,hl]
 ·by_cases e:i'=i
  ·subst e;rw[hp]at hp';injection hp' with hp'
   subst hp';unfold Zf at hr';rw[getElem?_set_self hi,hgd]at hr';injection hr' with hr'
   subst hr';exact hR.set (by omega) hz
  ·unfold Zf at hr';rw[getElem?_set_ne (by omega)]at hr';exact(h.row i' p' r' hp' hr').far2 hcs (h.dist _ _ _ _ hp' hp e) _ _
theorem OwnI.swap(h:OwnI w lo g n hs a){p k:Nat}{hp hk:Nat×Nat}(h1:hs[p]? =some hp)(h2:hs[k]? =some hk)(hpa:p<a.length)(hka:k<a.length):
  OwnI ((w.setCell ⟨g,p,none⟩ (ZI n hk)).setCell ⟨g,k,none⟩ (ZI n hp)) lo g n ((hs.set p hk).set k hp) ((a.set p (a.getD k [])).set k (a.getD p [])):=by
 have hpl:p<hs.length:=(Zg.1 h1).1;have hkl:k<hs.length:=(Zg.1 h2).1;have e1:((w.setCell ⟨g,p,none⟩ (ZI n hk)).setCell ⟨g,k,none⟩ (ZI n hp)).heap[g]? =some (.cells ((((hs.set p hk).set k hp).map (ZI n)).toArray) 94 (0,0)):=by
  have:=(h.head.set p (ZI n hk)).set k (ZI n hp);unfold VRow at this;rw[this,List.map_set,List.map_set]
 have zsq:Oth 94 w ((w.setCell ⟨g,p,none⟩ (ZI n hk)).setCell ⟨g,k,none⟩ (ZI n hp)):=Oth.set2 h.head p k _ _;have zuP:∀i q,((hs.set p hk).set k hp)[i]? =some q->∃i',hs[i']? =some q/\((a.set p (a.getD k [])).set k (a.getD p []))[i]? =a[i']? :=fun i q hq=>by
  by_cases hik:i=k
  ·subst hik;rw[getElem?_set_self (by rw[length_set];exact hkl)]at hq;injection hq with hq
   subst hq;refine⟨p,h1,?_⟩;rw[getElem?_set_self (by rw[length_set];exact hka),List.getD,Ze hpa];rfl
  ·rw[getElem?_set_ne (by omega)]at hq;by_cases hip:i=p
   ·subst hip;rw[getElem?_set_self hpl]at hq;injection hq with hq
    subst hq;refine⟨k,h2,?_⟩;rw[getElem?_set_ne (by omega),getElem?_set_self hpa,List.getD,Ze hka];rfl
   ·rw[getElem?_set_ne (by omega)]at hq;refine⟨i,hq,?_⟩;rw[getElem?_set_ne (by omega),getElem?_set_ne (by omega)]
 refine⟨e1,h.glo,by simp[h.len],?_,fun q hq=>?_,fun r hr=>?_,fun i q r hq hr=>?_⟩
 ·have wh:∀i q,((hs.set p hk).set k hp)[i]? =some q->hs[(if i=k then p else if i=p then k else i)]? =some q:=fun i q hq=>by
   by_cases hik:i=k
   ·subst hik;rw[getElem?_set_self (by rw[length_set];exact hkl)]at hq;rw[if_pos rfl,h1];exact hq
   ·rw[getElem?_set_ne (by omega)]at hq;rw[if_neg hik];by_cases hip:i=p
    ·subst hip;rw[getElem?_set_self hpl]at hq;rw[if_pos rfl,h2];exact hq
    ·rw[getElem?_set_ne (by omega)]at hq;rw[if_neg hip];exact hq
  intro i j q1 q2 hq1 hq2 hij;refine h.dist _ _ _ _ (wh i q1 hq1) (wh j q2 hq2) ?_;split<;>split<;>(try split)<;>(try split)<;>omega
 ·obtain⟨i,hi⟩:=List.getElem?_of_mem hq;obtain⟨i',h3,_⟩:=zuP i q hi;exact h.new q (Zm h3)
 ·obtain⟨i,hi⟩:=List.getElem?_of_mem hr;obtain⟨q,hq⟩:∃q,((hs.set p hk).set k hp)[i]? =some q:=⟨_,Ze (by have:=(Zg.1 hi).1;simp at this|-;rw[h.len];exact this)⟩;obtain⟨i',_,h4⟩:=zuP i q hq;rw[h4]at hi;exact h.all r (Zm hi)
 ·obtain⟨i',h3,h4⟩:=zuP i q hq;rw[h4]at hr;exact(h.row i' q r h3 hr).oth zsq (by decide) (by decide)
end
end
section
theorem zaq(j:Nat):(4294967296:Int)^j=2^(32*j):=by
 rw[Int.pow_mul];rfl
theorem zg4{x:Int}(hx:l[j]? =some x):val l=val (l.take j)+(4294967296:Int)^j*(x+4294967296*val (l.drop (j+1))):=by
 have hj:j<l.length:=(Zg.1 hx).1;have h1:=zbO (l:=l) j;rw[List.length_take,Nat.min_eq_left (by omega)]at h1;have h2:l.drop j=x::l.drop (j+1):=by
  rw[List.drop_eq_getElem_cons hj,(Zg.1 hx).2]
 rw[h2]at h1;exact h1
theorem zmZ(hl:Limbs l){x:Int}(hx:l[j]? =some x)(hk:k<32):(x / 2^k)%2=(val l / 2^(32*j+k))%2:=by
 have h1:=zg4 hx;have h2:=Ql (hl.take j);have h3:=qd (hl.take j);have hj:j<l.length:=(Zg.1 hx).1;rw[List.length_take,Nat.min_eq_left (by omega)]at h3;have hp:=jb j;have e1:val l / (4294967296:Int)^j=x+4294967296*val (l.drop (j+1)):=by
  rw[h1,Int.add_mul_ediv_left _ _ (by omega),Int.ediv_eq_zero_of_lt h2 h3];omega
 have e2:val l / 2^(32*j+k)=val l / (4294967296:Int)^j / 2^k:=by
  rw[Int.pow_add,<-zaq,Int.ediv_ediv_of_nonneg (by omega)]
 rw[e2,e1];have hk2:(0:Int)<2^k:=Int.pow_pos (by decide);obtain⟨t,ht⟩:∃t,32=k+(t+1):=⟨31-k,by omega⟩;have e3:(4294967296:Int)=2^k*(2*2^t):=by
  have:(4294967296:Int)=2^32:=rfl;rw[this,ht,Int.pow_add,Int.pow_succ];grind
 have e4:x+4294967296*val (l.drop (j+1))=x+2^k*(2*(2^t*val (l.drop (j+1)))):=by rw[e3];grind
 rw[e4,Int.add_mul_ediv_left _ _ (by omega)];omega
theorem zdU(a k:Nat)(h:a%2^(k+1)=0):a|||2^k=a+2^k:=by
 have h1:a=(a / 2^(k+1))<<<(k+1):=by
  rw[Nat.shiftLeft_eq,Nat.div_mul_cancel (Nat.dvd_of_mod_eq_zero h)]
 have h2:=Nat.shiftLeft_add_eq_or_of_lt (b:=2^k) (i:=k+1) (Nat.pow_lt_pow_right (by omega) (by omega)) (a / 2^(k+1));rw[<-h1]at h2;exact h2.symm
structure DivI(M N:Int)(i:Nat)(Q R:Int):Prop where
 eq:M / 2^i=Q*N+R
 r0:0<=R
 r1:R<N
 q0:0<=Q
theorem zg5(M:Int)(i:Nat):M / 2^i=2*(M / 2^(i+1))+(M / 2^i)%2:=by
 have e:M / 2^(i+1)=M / 2^i / 2:=by rw[Int.pow_succ,Int.ediv_ediv_of_nonneg (Int.le_of_lt (Int.pow_pos (by decide)))]
 rw[e];omega
theorem DivI.low(h:DivI M N (i+1) Q R)(hlt:2*R+(M / 2^i)%2<N):DivI M N i (2*Q) (2*R+(M / 2^i)%2):=by
 have h1:=zg5 M i;have h2:=h.eq;have h3:=h.r0;have h4:=h.q0;refine⟨?_,by omega,hlt,by omega⟩;rw[h1,h2];grind
theorem DivI.high(h:DivI M N (i+1) Q R)(hge:N<=2*R+(M / 2^i)%2):DivI M N i (2*Q+1) (2*R+(M / 2^i)%2-N):=by
 have h1:=zg5 M i;have h2:=h.eq;have h3:=h.r0;have h4:=h.q0;have h5:=h.r1;refine⟨?_,by omega,by omega,by omega⟩;rw[h1,h2];grind
theorem DivI.start(h0:0<=M)(hM:M<2^i)(hN:0<N):DivI M N i 0 0:=
 ⟨by rw[Int.ediv_eq_zero_of_lt h0 hM];omega,by omega,hN,by omega⟩
theorem DivI.done(h:DivI M N 0 Q R):Q=M / N/\R=M%N:=by
 have h1:=h.eq;rw[Int.pow_zero,Int.ediv_one]at h1;have h2:=h.r0;have h3:=h.r1;have e:M=R+N*Q:=by rw[h1];grind
 constructor
 ·rw[e,Int.add_mul_ediv_left _ _ (by omega),Int.ediv_eq_zero_of_lt h2 h3];omega
 ·rw[e,Int.add_mul_emod_self_left,Int.emod_eq_of_lt h2 h3]
end
end Go.Proofs.YtpcgfpmiphiacaaGreat

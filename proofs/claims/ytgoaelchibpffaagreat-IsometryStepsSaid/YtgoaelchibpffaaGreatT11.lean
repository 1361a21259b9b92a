import Derived.Test.YtgoaelchibpffaaGreatT10
set_option maxHeartbeats 8000000
set_option linter.unusedVariables false
set_option linter.unusedSimpArgs false
namespace Go.Proofs.YtgoaelchibpffaaGreat
open List (cons_append mem_flatMap mem_range mem_cons nodup_range mem_map length_cons map_cons sum_cons getElem?_set_self getElem?_set_ne length_set)
variable {cs:Array Value} {exact:Bool} {M N Q R h z:Int} {L m:List (List Int)} {l x:List Int} {b c i j k n:Nat} {g:Nat->Int} {B:Option Addr}
section
open La
namespace La
def zZ(g:Nat->Rat):Nat->List Int->Rat
 |_,[]=>0
 |k,c::t=>g k*c+zZ g (k+1) t
def QY(F:Mx)(k:Nat)(t:List Int):Rat:=zZ (fun i=>zZ (F i) k t) k t
theorem zgM(g h:Nat->Rat)(t:List Int):∀k,zZ (fun i=>g i-h i) k t=zZ g k t-zZ h k t:=by
 induction t with
 |nil=>intro k;simp only[zZ];grind
 |cons c t ih=>intro k;simp only[zZ,ih];grind
theorem zbe(a:Rat)(g:Nat->Rat)(t:List Int):∀k,zZ (fun i=>a*g i) k t=a*zZ g k t:=by
 induction t with
 |nil=>intro k;simp only[zZ];grind
 |cons c t ih=>intro k;simp only[zZ,ih];grind
theorem zmL(a:Rat)(g:Nat->Rat)(t:List Int)(k:Nat):zZ (fun i=>g i*a) k t=zZ g k t*a:=by
 rw[<-Rat.mul_comm,<-zbe];congr 1;funext i;exact Rat.mul_comm _ _
theorem zmM(g:Nat->Rat)(h:∀i,g i=0)(t:List Int):∀k,zZ g k t=0:=by
 induction t with
 |nil=>intro k;rfl
 |cons c t ih=>intro k;simp only[zZ,ih,h];grind
theorem zgN{g h:Nat->Rat}(t:List Int):∀k,(∀i,k<=i->i<k+t.length->g i=h i)->zZ g k t=zZ h k t:=by
 induction t with
 |nil=>intro k _;rfl
 |cons c t ih=>
  intro k hk;simp only[zZ];rw[hk k Zr af,ih (k+1) (fun i h1 h2=>hk i aa (by simp;omega))]
theorem zmN{f:Mx}(hs:Sym f)(hp:Piv f (k+1))(c:Int)(t:List Int):
  QY (S f k) k (c::t)=QY (S f (k+1)) (k+1) t+zZ (S f k k) k (c::t)*zZ (S f k k) k (c::t) / S f k k k:=by
 have hk:=hp k aa;have h1:QY (S f (k+1)) k (c::t)=QY (S f (k+1)) (k+1) t:=by
  have e1:∀i,S f (k+1) i k=0:=fun i=>ze0 (k+1) hp k aa i
  have e2:∀j,S f (k+1) k j=0:=fun j=>zbG (k+1) hp k aa j
  unfold QY;have e3:∀i,zZ (S f (k+1) i) k (c::t)=zZ (S f (k+1) i) (k+1) t:=fun i=>by simp only[zZ,e1];grind
  simp only[e3];show zZ (S f (k+1) k) (k+1) t*c+_=_;rw[zmM _ e2];grind
 have h2:QY (S f (k+1)) k (c::t)=QY (S f k) k (c::t)-zZ (S f k k) k (c::t)*zZ (S f k k) k (c::t) / S f k k k:=by
  unfold QY;have e1:∀i,zZ (S f (k+1) i) k (c::t)=zZ (S f k i) k (c::t)-S f k i k*(zZ (S f k k) k (c::t) / S f k k k):=fun i=>by
   have:S f (k+1) i=fun j=>S f k i j-(S f k i k / S f k k k)*S f k k j:=by
    funext j
    show elim (S f k) k i j=_;simp only[elim];grind
   rw[this,zgM,zbe];grind
  simp only[e1];rw[zgM,zmL];have e2:zZ (fun i=>S f k i k) k (c::t)=zZ (S f k k) k (c::t):=zgN _ _ (fun i _ _=>J8 hs k i k);rw[e2];grind
 rw[h1]at h2;grind
def qv(g:Nat->Int):Nat->List Int->Int
 |_,[]=>0
 |k,c::t=>g k*c+qv g (k+1) t
def Jt(F:Nat->Nat->Int)(k:Nat)(t:List Int):Int:=qv (fun i=>qv (F i) k t) k t
theorem zdT(g:Nat->Int)(t:List Int):∀k,((qv g k t:Int):Rat)=zZ (fun i=>(g i:Rat)) k t:=by
 induction t with
 |nil=>intro k;rfl
 |cons c t ih=>intro k;simp only[qv,zZ,Rat.intCast_add,Rat.intCast_mul,ih]
theorem zmO(F:Nat->Nat->Int)(k:Nat)(t:List Int):((Jt F k t:Int):Rat)=QY (fun i j=>(F i j:Rat)) k t:=by
 unfold Jt QY;rw[zdT];refine zgN _ _ fun i _ _=>zdT _ _ _
def qE(m:Nat->Nat->Int)(k:Nat)(t:List Int):Int:=Jt (E m k) k t
theorem zgO{m:Nat->Nat->Int}(hp:Piv (zf m) k)(t:List Int):((qE m k t:Int):Rat)=dd (zf m) k*QY (S (zf m) k) k t:=by
 unfold qE;rw[zmO];have h:=(ZX m k hp).1;have e:(fun i j=>((E m k i j:Int):Rat))=fun i j=>dd (zf m) k*S (zf m) k i j:=by funext i j;exact h i j
 rw[e];unfold QY;have e2:∀i,zZ (fun j=>dd (zf m) k*S (zf m) k i j) k t=dd (zf m) k*zZ (S (zf m) k i) k t:=fun i=>zbe _ _ _ _
 simp only[e2];exact zbe _ _ _ _
def lE(m:Nat->Nat->Int)(k:Nat)(t:List Int):Int:=qv (E m k k) k t
theorem zmP{m:Nat->Nat->Int}(hp:Piv (zf m) k)(t:List Int):((lE m k t:Int):Rat)=dd (zf m) k*zZ (S (zf m) k k) k t:=by
 unfold lE;rw[zdT];have h:=(ZX m k hp).1;have e:(fun j=>((E m k k j:Int):Rat))=fun j=>dd (zf m) k*S (zf m) k k j:=by funext j;exact h k j
 rw[e];exact zbe _ _ _ _
theorem zdU{m:Nat->Nat->Int}(hs:Sym (zf m))(hp:Pos (zf m) (k+1))(c:Int)(t:List Int):
  zF m k*qE m (k+1) t+lE m k (c::t)*lE m k (c::t)=zF m (k+1)*qE m k (c::t):=by
 apply Rat.intCast_inj.1;have p1:Piv (zf m) k:=(hp.le aa).piv;rw[Rat.intCast_add,Rat.intCast_mul,Rat.intCast_mul,Rat.intCast_mul,(ZX m k p1).2.1,(ZX m (k+1) hp.piv).2.1,zgO hp.piv,zgO p1,zmP p1,zmN hs hp.piv];have hd:dd (zf m) (k+1)=dd (zf m) k*S (zf m) k k k:=rfl;have hk:=hp k aa;rw[hd];grind
theorem zdV(a:Int):0<=a*a:=by
 rcases Int.le_total 0 a with h|h
 ·exact Int.mul_nonneg h h
 ·exact Int.mul_nonneg_of_nonpos_of_nonpos h h
def left(m:Nat->Nat->Int)(za:Int)(k:Nat)(t:List Int):Int:=zF m k*za-qE m k t
theorem zdW{m:Nat->Nat->Int}(hs:Sym (zf m))(hp:Pos (zf m) (k+1))(za c:Int)(t:List Int):
  zF m k*left m za (k+1) t-lE m k (c::t)*lE m k (c::t)=zF m (k+1)*left m za k (c::t):=by
 have:=zdU hs hp c t;unfold left;grind
theorem zdX{m:Nat->Nat->Int}(hs:Sym (zf m))(hp:Pos (zf m) (k+1))(za c:Int)(t:List Int)(h:0<=left m za k (c::t)):0<=left m za (k+1) t:=by
 have h1:=zdW hs hp za c t;have h2:=ZV hp (aa:k+1<=k+1);have h3:=ZV hp (aa:k<=k+1);have h4:=Int.mul_nonneg (Int.le_of_lt h2) h;have h5:=zdV (lE m k (c::t));rcases Int.lt_or_le (left m za (k+1) t) 0 with h6|h6
 ·have:=Int.mul_neg_of_pos_of_neg h3 h6;omega
 ·exact h6
theorem zbf{m:Nat->Nat->Int}(za:Int)(n:Nat):left m za n []=zF m n*za:=by
 unfold left qE Jt qv;omega
end La
theorem zcb(g:Nat->Int)(t:List Int):∀(k:Nat)(l:List Int),l.length=t.length->(∀i,i<t.length->l.getD i 0=g (k+i))->zx l t=qv g k t:=by
 induction t with
 |nil=>intro k l hl _;obtain rfl:=List.eq_nil_of_length_eq_zero hl;rfl
 |cons c t ih=>
  intro k l hl h
  cases l with
  |nil=>grind
  |cons a l=>
   have h0:=h 0 af;simp only[List.getD_cons_zero,Nat.add_zero]at h0;simp only[zx,qv,h0];rw[ih (k+1) l ae (fun i hi=>?_)];have:=h (i+1) ae;grind
section
variable {m:List (List Int)} {k:Nat}
theorem zgP(hk:k<m.length)(t:List Int)(ht:t.length=m.length-1-k):qJ (zq m m.length) k t=qv (E (ent m) k k) (k+1) t:=by
 unfold qJ;rw[zdN hk];refine zcb _ t (k+1) _ (by simp[Zv];omega) (fun i hi=>?_);have h1:i<m.length-k-1:=aa
 have h2:ent (zm m k).2 0 (i+1)=E (ent m) k k (k+(i+1)):=by
  have:=Z1 (m:=m) (k:=k) (i:=0) (j:=i+1) aa aa;grind
 simp only[Zv];grind
theorem zmQ(hk:k<m.length)(t:List Int)(ht:t.length=m.length-1-k)(c:Int):vU (zl m m.length) (zq m m.length) k t c=lE (ent m) k (c::t):=by
 unfold vU lE;rw[zgP hk t ht,qV aa];rfl
theorem QZ(hr:RedOK m)(hk:k<m.length)(za:Int)(t:List Int)(ht:t.length=m.length-1-k)(c:Int):Z7 (zl m m.length) (zq m m.length) k (left (ent m) za (k+1) t) t c=left (ent m) za k (c::t):=by
 have zsw:=QX (zV hr.small) (fun i j hi hj=>((of_decide_eq_true hr.small).2.2.2 i hi j hj).1);unfold Z7 ZZ;rw[zmQ hk t ht,qV aa,qV aa,zdW zsw (hr.pos.le aa)];have:=ZV hr.pos (aa:k+1<=m.length);exact Int.mul_ediv_cancel_left _ aa
theorem zmR(hN:0<=N)(u:Int):(-((zw N.toNat:Nat):Int)<=u/\u<=((zw N.toNat:Nat):Int))↔u*u<=N:=by
 obtain⟨h1,h2⟩:=Qb N.toNat;obtain⟨r,hr⟩:=Xz (zw N.toNat);rw[<-hr]at h1 h2|-
 have g2:N<((r:Int)+1)*((r:Int)+1):=ae
 constructor
 ·rintro⟨a,b⟩;have:=Qs (a:=u) (b:=u) (A:=r) (B:=r) aa aa aa aa;omega
 ·intro hu;rcases(aa:(-(r:Int)<=u/\u<=r)∨(r:Int)+1<=u∨(r:Int)+1<=-u) with h|h|h
  ·exact h
  ·have:=Int.mul_le_mul h h aa aa;omega
  ·have:=Int.mul_le_mul h h aa aa;grind
theorem Ju(hr:RedOK m)(hk:k<m.length){za:Int}(t:List Int)(ht:t.length=m.length-1-k)(h0:0<=left (ent m) za (k+1) t)(c:Int):
  (zR (zl m m.length) (zq m m.length) k (left (ent m) za (k+1) t) t<=c/\c<=Z6 (zl m m.length) (zq m m.length) k (left (ent m) za (k+1) t) t)↔0<=left (ent m) za k (c::t):=by
 have zsw:=QX (zV hr.small) (fun i j hi hj=>((of_decide_eq_true hr.small).2.2.2 i hi j hj).1);have hd:=ZV hr.pos (aa:k+1<=m.length);have hd0:=ZV hr.pos (aa:k<=m.length);have hst:=zdW zsw (hr.pos.le (aa:k+1<=m.length)) za c t;have hu:lE (ent m) k (c::t)=zF (ent m) (k+1)*c+qv (E (ent m) k k) (k+1) t:=rfl;have hN:0<=zF (ent m) k*left (ent m) za (k+1) t:=Int.mul_nonneg aa h0;have hq:=zmR hN (lE (ent m) k (c::t))
 unfold zR Z6 vR ZZ;rw[zgP hk t ht,qV aa,qV aa];obtain⟨r,hr'⟩:∃r,r=((zw (zF (ent m) k*left (ent m) za (k+1) t).toNat:Nat):Int):=⟨_,rfl⟩;rw[<-hr']at hq|-
 obtain⟨s,hs⟩:=Xz (qv (E (ent m) k k) (k+1) t);rw[<-hs]at hu|-
 obtain⟨d,hd'⟩:∃d,d=zF (ent m) (k+1):=⟨_,rfl⟩;rw[<-hd']at hu hd hst|-
 obtain⟨u,hu'⟩:∃u,u=lE (ent m) k (c::t):=⟨_,rfl⟩;rw[<-hu']at hu hq hst;have e1:-((r+s) / d)<=c↔-r<=u:=by
  have h1:=Int.le_ediv_iff_mul_le (a:=-c) (b:=r+s) hd;grind
 have e2:c<=(r-s) / d↔u<=r:=by
  have h1:=Int.le_ediv_iff_mul_le (a:=c) (b:=r-s) hd;grind
 rw[e1,e2,hq];constructor
 ·intro h;rcases Int.lt_or_le (left (ent m) za k (c::t)) 0 with h6|h6
  ·have:=Int.mul_neg_of_pos_of_neg hd h6;omega
  grind
 ·intro h;have:=Int.mul_nonneg (Int.le_of_lt hd) h;omega
end
def ql:List Int->Prop
 |[]=>False
 |c::t=>ql t∨((∀x∈t,x=0)/\0<c)
theorem zgQ(p:List Int)(c:Int):ql (p++[c])↔0<c∨(c=0/\ql p):=by
 induction p with
 |nil=>simp[ql]
 |cons a p ih=>
  simp only[cons_append,ql,ih];constructor
  ·rintro((h|⟨h1,h2⟩)|⟨h1,h2⟩)
   ·grind
   ·grind
   simp_all
  grind
theorem zgR(hr:RedOK m)(za:Int)(p:List Int):∀(k:Nat)(t:List Int),k+p.length<=m.length->0<=left (ent m) za k (p++t)->0<=left (ent m) za (k+p.length) t:=by
 have zsw:=QX (zV hr.small) (fun i j hi hj=>((of_decide_eq_true hr.small).2.2.2 i hi j hj).1);induction p with
 |nil=>grind
 |cons c p ih=>
  intro k t hk h;have h1:=zdX zsw (hr.pos.le (ae:k+1<=m.length)) za c (p++t) h;grind
theorem zcc{α:Type}{p:List α}(h:p.length=k+1):∃q c,p=q++[c]/\q.length=k:=by
 refine⟨p.dropLast,p.getLast ae,(List.dropLast_concat_getLast _).symm,ae⟩
theorem zgS(g:Nat->Int)(t:List Int)(h:∀x∈t,x=0):∀k,qv g k t=0:=by
 induction t with
 |nil=>intro k;rfl
 |cons c t ih=>
  intro k;have hc:=h c af;subst hc;simp only[qv,ih (fun x hx=>h x ae)];simp
theorem zbg(hr:RedOK m){za:Int}(hb:0<=za)(hk:k<=m.length)(t:List Int)(h:∀x∈t,x=0):0<=left (ent m) za k t:=by
 unfold left qE Jt;rw[zgS _ t h];have:=Int.mul_nonneg (Int.le_of_lt (ZV hr.pos hk)) hb;omega
theorem zbh(hr:RedOK m){za:Int}(hb:0<=za)(zero:Bool)(t:List Int)(hk:k<m.length)(ht:t.length=m.length-1-k)(h0:0<=left (ent m) za (k+1) t)(hz:zero=true->∀x∈t,x=0)(c:Int):
  (∃j:Nat,j<jJ (zl m m.length) (zq m m.length) k (left (ent m) za (k+1) t) zero t/\Z0 (zl m m.length) (zq m m.length) k (left (ent m) za (k+1) t) zero t+(j:Int)=c)↔(0<=left (ent m) za k (c::t)/\(zero=true->0<=c)):=by
 rw[<-Ju hr hk t ht h0 c];unfold jJ Z0
 cases zero with
 |false=>
  simp only[Bool.false_eq_true,if_false];constructor
  ·grind
  ·rintro⟨h1,h2⟩;exact⟨(c-zR (zl m m.length) (zq m m.length) k (left (ent m) za (k+1) t) t).toNat,aa,aa⟩
 |true=>
  have hz0:=(Ju hr hk t ht h0 0).2 (zbg hr hb aa (0::t) (fun x hx=>ae));simp only[if_true,true_implies];constructor
  ·grind
  ·rintro⟨⟨h1,h2⟩,h3⟩;exact⟨c.toNat,aa,aa⟩
theorem zcd(hr:RedOK m){za:Int}(hb:0<=za)(exact:Bool)(x:List Int)(k:Nat):∀(zero:Bool)(t:List Int),k<m.length->t.length=m.length-1-k->0<=left (ent m) za (k+1) t->(zero=true->∀x∈t,x=0)->
  (x∈Zs (zl m m.length) (zq m m.length) exact k (left (ent m) za (k+1) t) zero t↔
   ∃p:List Int,x=p++t/\p.length=k+1/\0<=left (ent m) za 0 x/\(exact=true->left (ent m) za 0 x=0)/\(zero=true->ql p)):=by
 induction k with
 |zero=>
  intro zero t hk ht h0 hz;simp only[Zs,mem_flatMap,mem_range];constructor
  ·rintro⟨j,hj,hx⟩;obtain⟨c,hc⟩:∃c,Z0 (zl m m.length) (zq m m.length) 0 (left (ent m) za (0+1) t) zero t+(j:Int)=c:=⟨_,rfl⟩;obtain⟨g1,g2⟩:=(zbh hr hb zero t hk ht h0 hz c).1 ⟨j,hj,hc⟩;rw[hc,QZ hr hk za t ht]at hx;split at hx
   ·rename_i htk
    obtain rfl:x=c::t:=by simpa using hx
    refine⟨[c],rfl,rfl,g1,fun he=>?_,fun hzz=>?_⟩
    ·simp only[jm,he,Bool.true_and,Bool.not_not,Bool.and_eq_true,decide_eq_true_eq]at htk;exact htk.2
    ·have:=g2 hzz;simp only[jm,hzz,Bool.true_and,Bool.and_eq_true,Bool.not_eq_true',decide_eq_false_iff_not]at htk;refine .inr ⟨af,aa⟩
   ·simp at hx
  ·rintro⟨p,rfl,hp,g1,g2,g3⟩;obtain⟨q,c,rfl,hq⟩:=zcc hp;obtain rfl:=List.eq_nil_of_length_eq_zero hq;simp only[List.nil_append,cons_append]at g1 g2 g3|-
   have hc0:zero=true->0<c:=fun hzz=>by
    rcases g3 hzz with h|⟨_,h⟩
    ·exact absurd h (by simp[ql])
    ·exact h
   obtain⟨j,hj,hc⟩:=(zbh hr hb zero t hk ht h0 hz c).2 ⟨g1,fun hzz=>by have:=hc0 hzz;omega⟩;refine⟨j,hj,?_⟩;rw[hc,QZ hr hk za t ht,if_pos]
   ·simp
   ·simp only[jm,Bool.and_eq_true,Bool.not_eq_true',Bool.and_eq_false_iff,decide_eq_false_iff_not,Bool.not_eq_false',decide_eq_true_eq];constructor
    ·cases zero with
     |false=>exact .inl rfl
     |true=>have:=hc0 rfl;exact .inr aa
    ·cases exact with
     |false=>exact .inl rfl
     |true=>exact .inr (g2 rfl)
 |succ k ih=>
  intro zero t hk ht h0 hz;simp only[Zs,mem_flatMap,mem_range];constructor
  ·rintro⟨j,hj,hx⟩;obtain⟨c,hc⟩:∃c,Z0 (zl m m.length) (zq m m.length) (k+1) (left (ent m) za (k+1+1) t) zero t+(j:Int)=c:=⟨_,rfl⟩;obtain⟨g1,g2⟩:=(zbh hr hb zero t hk ht h0 hz c).1 ⟨j,hj,hc⟩;rw[hc,QZ hr hk za t ht]at hx;obtain⟨p,rfl,hp,a1,a2,a3⟩:=(ih (zero&&decide (c=0)) (c::t) aa (by simp[ht];omega) g1 (fun hh=>by
    simp only[Bool.and_eq_true,decide_eq_true_eq]at hh;intro y hy;rcases mem_cons.1 hy with rfl|hy
    ·exact hh.2
    ·exact hz hh.1 y hy)).1 hx
   refine⟨p++[c],af,by simp[hp],a1,a2,fun hzz=>?_⟩;rw[zgQ];have:=g2 hzz;rcases(aa:0<c∨c=0) with h|h
   ·exact .inl h
   ·exact .inr ⟨h,a3 (by simp[hzz,h])⟩
  ·rintro⟨p,rfl,hp,g1,g2,g3⟩;obtain⟨q,c,rfl,hq⟩:=zcc hp;have e:q++[c]++t=q++c::t:=af
   have hs:=zgR hr za q 0 (c::t) aa (by rw[<-e];exact g1);rw[Nat.zero_add,hq]at hs;have hc0:zero=true->0<c∨(c=0/\ql q):=fun hzz=>(zgQ q c).1 (g3 hzz)
   obtain⟨j,hj,hc⟩:=(zbh hr hb zero t hk ht h0 hz c).2 ⟨hs,fun hzz=>by rcases hc0 hzz with h|h<;>omega⟩;refine⟨j,hj,?_⟩;rw[hc,QZ hr hk za t ht];refine(ih (zero&&decide (c=0)) (c::t) aa (by simp[ht];omega) hs (fun hh=>?_)).2 ⟨q,e,hq,g1,g2,fun hh=>?_⟩
   ·simp only[Bool.and_eq_true,decide_eq_true_eq]at hh;intro y hy;rcases mem_cons.1 hy with rfl|hy
    ·exact hh.2
    ·exact hz hh.1 y hy
   ·simp only[Bool.and_eq_true,decide_eq_true_eq]at hh;rcases hc0 hh.1 with h|h
    ·omega
    ·exact h.2
theorem zgT(hr:RedOK m){za:Int}(hb:0<=za)(exact:Bool)(k:Nat):∀(zero:Bool)(t:List Int),k<m.length->t.length=m.length-1-k->0<=left (ent m) za (k+1) t->(zero=true->∀x∈t,x=0)->
  (Zs (zl m m.length) (zq m m.length) exact k (left (ent m) za (k+1) t) zero t).Nodup:=by
 induction k with
 |zero=>
  intro zero t hk ht h0 hz;simp only[Zs];unfold List.Nodup;rw[List.pairwise_flatMap];refine⟨fun j _=>by split<;>simp,?_⟩;refine List.Pairwise.imp_of_mem ?_ nodup_range;grind
 |succ k ih=>
  intro zero t hk ht h0 hz;simp only[Zs];unfold List.Nodup;rw[List.pairwise_flatMap];have zuP:∀(j:Nat),j<jJ (zl m m.length) (zq m m.length) (k+1) (left (ent m) za (k+1+1) t) zero t->∀c,Z0 (zl m m.length) (zq m m.length) (k+1) (left (ent m) za (k+1+1) t) zero t+(j:Int)=c->0<=left (ent m) za (k+1) (c::t)/\((zero&&decide (c=0))=true->∀x∈c::t,x=0):=by
   intro j hj c hc;obtain⟨g1,g2⟩:=(zbh hr hb zero t hk ht h0 hz c).1 ⟨j,hj,hc⟩;grind
  refine⟨fun j hj=>?_,?_⟩
  ·obtain⟨c,hc⟩:∃c,Z0 (zl m m.length) (zq m m.length) (k+1) (left (ent m) za (k+1+1) t) zero t+(j:Int)=c:=⟨_,rfl⟩;obtain⟨g1,g2⟩:=zuP j (by simpa using hj) c hc;rw[hc,QZ hr hk za t ht];exact ih _ (c::t) aa (by simp[ht];omega) g1 g2
  ·refine List.Pairwise.imp_of_mem ?_ nodup_range;intro a b ha hb' hab x hx y hy;obtain⟨c,hc⟩:∃c,Z0 (zl m m.length) (zq m m.length) (k+1) (left (ent m) za (k+1+1) t) zero t+(a:Int)=c:=⟨_,rfl⟩;obtain⟨d,hd⟩:∃d,Z0 (zl m m.length) (zq m m.length) (k+1) (left (ent m) za (k+1+1) t) zero t+(b:Int)=d:=⟨_,rfl⟩;obtain⟨g1,g2⟩:=zuP a (by simpa using ha) c hc;obtain⟨g3,g4⟩:=zuP b (by simpa using hb') d hd
   rw[hc,QZ hr hk za t ht]at hx;rw[hd,QZ hr hk za t ht]at hy;obtain⟨p,rfl,hp,_⟩:=(zcd hr hb exact x k _ (c::t) aa (by simp[ht];omega) g1 g2).1 hx;obtain⟨q,hyq,hq,_⟩:=(zcd hr hb exact y k _ (d::t) aa (by simp[ht];omega) g3 g4).1 hy;intro e;rw[hyq]at e;have:=List.append_inj_right e aa;injection this with e1
   omega
theorem zdY:∀l m:List Int,zx l m=zx m l
 |[],[]=>rfl
 |[],_::_=>rfl
 |_::_,[]=>rfl
 |a::l,b::m=>by simp only[zx];rw[zdY l m,Int.mul_comm]
theorem zgU(hn:AllLen m n)(hi:i<m.length)(x:List Int)(hx:x.length=n):zx (m.getD i []) x=qv (ent m i) 0 x:=by
 have hl:(m.getD i []).length=n:=by
  have:m[i].length=n:=hn _ (List.getElem_mem _);grind
 exact zcb _ x 0 _ aa (fun j _=>by simp[ent])
theorem zbi(hn:AllLen m m.length)(x:List Int)(hx:x.length=m.length):zh m x=qE (ent m) 0 x:=by
 unfold zh qE Jt;rw[zdY];refine zcb _ x 0 _ (by simp[zY,hx]) (fun i hi=>?_);have hi':i<m.length:=aa
 have:(zY m x).getD i 0=zx (m.getD i []) x:=by simp[zY,hi']
 rw[this,zgU hn hi' x hx,Nat.zero_add];rfl
theorem Jv(hn:AllLen m m.length)(za:Int)(x:List Int)(hx:x.length=m.length):left (ent m) za 0 x=za-zh m x:=by
 rw[zbi hn x hx];show 1*za-_=_;omega
theorem zmS{za:Int}(h1:1<=h)(hb:0<=za)(exact:Bool)(x:List Int):x∈qU h za exact (zw (za / h).toNat)↔∃c:Int,x=[c]/\1<=c/\h*c*c<=za/\(exact=true->h*c*c=za):=by
 obtain⟨h2,h3⟩:=zgx h1 hb;obtain⟨r,hr⟩:=Xz (zw (za / h).toNat);rw[<-hr]at h2 h3|-
 simp only[qU,mem_map,List.mem_filter,mem_range];constructor
 ·rintro⟨i,⟨hi,hp⟩,rfl⟩;refine⟨(i:Int)+1,rfl,aa,h2 _ aa aa,fun he=>?_⟩;grind
 ·rintro⟨c,rfl,c1,c2,c3⟩;have hc:c<=r:=by
   rcases Int.lt_or_le (r:Int) c with hlt|hle
   ·have e1:h*((r:Int)+1)<=h*c:=Int.mul_le_mul_of_nonneg_left aa aa;have e2:h*((r:Int)+1)*((r:Int)+1)<=h*c*c:=Int.mul_le_mul e1 aa aa (Int.mul_nonneg aa aa);omega
   grind
  refine⟨(c-1).toNat,⟨aa,?_⟩,ae⟩;grind
theorem Q5(hr:RedOK m){za:Int}(hb:0<=za)(exact:Bool)(x:List Int):x∈zB m za exact↔x.length=m.length/\ql x/\zh m x<=za/\(exact=true->zh m x=za):=by
 have zsy:=zV hr.small;have hl:=Z2 hr.small;unfold zB;split
 ·rename_i h1
  have hd:1<=ent m 0 0:=by
   have:=QI (m:=ent m) hr.pos (k:=0) aa;exact this
  rw[zmS hd hb];have hn:∀c:Int,zh m [c]=ent m 0 0*c*c:=fun c=>by
   rw[zbi zsy [c] (by simp[h1])];simp only[qE,Jt,qv,E];grind
  constructor
  ·rintro⟨c,rfl,c1,c2,c3⟩;rw[hn];exact⟨by simp[h1],.inr ⟨af,aa⟩,c2,c3⟩
  ·rintro⟨a1,a2,a3,a4⟩;obtain⟨c,rfl⟩:∃c,x=[c]:=by
    match x,a1 with
    |[c],_=>exact⟨c,rfl⟩
    |[],h=>simp at h;omega
    |_::_::_,h=>simp at h;omega
   rw[hn]at a3 a4;have:0<c:=by
    rcases a2 with h|⟨_,h⟩
    ·exact absurd h (by simp[ql])
    ·exact h
   exact⟨c,rfl,aa,a3,a4⟩
 ·have e:vD (zl m m.length) m.length*za=left (ent m) za (m.length-1+1) []:=by
   rw[(aa:m.length-1+1=m.length),zbf,qV Zr]
  rw[e,zcd hr hb exact x (m.length-1) true [] aa af ?_ af]
  ·constructor
   ·rintro⟨p,rfl,hp,a1,a2,a3⟩;simp only[List.append_nil]at a1 a2|-
    have hpl:p.length=m.length:=aa
    rw[Jv zsy za p hpl]at a1 a2;grind
   ·rintro⟨a1,a2,a3,a4⟩;rw[Jv zsy za x a1];grind
  ·rw[<-e];have:=qV (m:=m) (k:=m.length) Zr;rw[this];exact Int.mul_nonneg (Int.le_of_lt (ZV hr.pos Zr)) hb
theorem zax(hr:RedOK m){za:Int}(hb:0<=za)(hb1:za<1073741824)(t:List Int):∀k,k<m.length->t.length=m.length-1-k->0<=left (ent m) za (k+1) t->LevOK (zl m m.length) m.length za k (left (ent m) za (k+1) t) t:=by
 have zsw:=QX (zV hr.small) (fun i j hi hj=>((of_decide_eq_true hr.small).2.2.2 i hi j hj).1);induction t with
 |nil=>
  intro k hk ht h0;have e:k+1=m.length:=ae
  refine⟨hk,h0,?_,ht,by simp[zU]⟩;rw[zbf,e,qV Zr];grind
 |cons c t ih=>
  intro k hk ht h0;simp only[length_cons]at ht;have h1:=zdX zsw (hr.pos.le (aa:k+1+1<=m.length)) za c t h0;have h2:=ih (k+1) aa aa h1;have h3:=(Ju hr (aa:k+1<m.length) t aa h1 c).2 h0;have h4:=LevOK.next (hr.num hb hb1) h2 h3.1 h3.2;rwa [QZ hr aa za t aa]at h4
theorem zgV(hr:RedOK m)(t:List Int):∀k,k+t.length<=m.length->0<=qE (ent m) k t:=by
 have zsw:=QX (zV hr.small) (fun i j hi hj=>((of_decide_eq_true hr.small).2.2.2 i hi j hj).1);induction t with
 |nil=>intro k _;exact Int.le_refl _
 |cons c t ih=>
  intro k hk;simp only[length_cons]at hk;have h1:=ih (k+1) aa;have h2:=zdU zsw (hr.pos.le (aa:k+1<=m.length)) c t;have h3:=ZV hr.pos (aa:k<=m.length);have h4:=ZV hr.pos (aa:k+1<=m.length);have h5:=Int.mul_nonneg (Int.le_of_lt h3) h1;have h6:=zdV (lE (ent m) k (c::t));rcases Int.lt_or_le (qE (ent m) k (c::t)) 0 with h7|h7
  ·have:=Int.mul_neg_of_pos_of_neg h4 h7;omega
  grind
theorem Jw(hr:RedOK m)(x:List Int)(hx:x.length=m.length):0<=zh m x:=by
 rw[zbi (zV hr.small) x hx];exact zgV hr x 0 aa
theorem zdZ(hr:RedOK m){za:Int}(hb:0<=za)(hb1:za<1073741824)(x:List Int)(hx:x.length=m.length)(hn:zh m x<=za):zU x<=1099511627776:=by
 have zsy:=zV hr.small;have hl:=Z2 hr.small;have zsw:=QX (zV hr.small) (fun i j hi hj=>((of_decide_eq_true hr.small).2.2.2 i hi j hj).1);have h0:0<=left (ent m) za 0 x:=by rw[Jv zsy za x hx];omega
 cases x with
 |nil=>grind
 |cons c t=>
  simp only[length_cons]at hx;have h1:=zdX zsw (hr.pos.le (aa:0+1<=m.length)) za c t h0;have h2:=zax hr hb hb1 t 0 aa aa h1;have h3:=(Ju hr (aa:0<m.length) t aa h1 c).2 h0;have hN:=hr.num hb hb1;have h4:=zaq hN h2;have h5:=Jo hN h2;have h6:=Jn hN h2;simp only[zU];omega
theorem zd0(h:zU x<=1099511627776):QE x=true:=by
 unfold QE;rw[List.all_eq_true];intro y hy;obtain⟨i,hi⟩:=List.getElem?_of_mem hy;have:=zap x i y hi;grind
theorem Jy(h:zD x=0):∀y∈x,y=0:=by
 induction x with
 |nil=>simp
 |cons a x ih=>
  simp only[zD]at h;grind
theorem JX(h:ql x):¬∀y∈x,y=0:=by
 induction x with
 |nil=>exact absurd h (by simp[ql])
 |cons a x ih=>
  intro hz;rcases h with h|⟨_,h⟩
  ·grind
  simp_all
theorem zd1(h:ql x):¬ql (x.map fun c=>-c):=by
 induction x with
 |nil=>exact absurd h (by simp[ql])
 |cons a x ih=>
  rintro(h2|⟨h2,h3⟩)
  ·rcases h with h|⟨h,_⟩
   ·grind
   ·exact JX h2 (fun y hy=>ae)
  ·rcases h with h|⟨_,h⟩
   ·exact JX h (fun y hy=>by
     have:=h2 (-y) (mem_map.2 ⟨y,hy,rfl⟩);omega)
   grind
theorem zce(h:¬∀y∈x,y=0):ql x∨ql (x.map fun c=>-c):=by
 induction x with
 |nil=>grind
 |cons a x ih=>
  by_cases hx:∀y∈x,y=0
  ·have ha:a≠0:=fun ha=>h (fun y hy=>ae)
   rcases(aa:0<a∨0< -a) with h1|h1
   ·exact .inl (.inr ⟨hx,h1⟩)
   ·refine .inr (.inr ⟨fun y hy=>?_,h1⟩);grind
  ·rcases ih hx with h1|h1
   ·exact .inl (.inl h1)
   ·exact .inr (.inl h1)
theorem Jz(x:List Int):(x.map fun c=>-c).map (fun c=>-c)=x:=by
 induction x with
 |nil=>rfl
 |cons a x ih=>grind
theorem zmT{y:List Int}(hx:ql x)(hy:ql y)(h:zJ x=zJ y):x=y:=by
 unfold zJ at h;split at h<;>split at h
 ·have:=congrArg (List.map fun c=>-c) h;rwa [Jz,Jz]at this
 ·rw[<-h]at hy;exact absurd hy (zd1 hx)
 ·rw[h]at hx;exact absurd hx (zd1 hy)
 grind
theorem jM(x:List Int):zD (x.map fun c=>-c)=-zD x:=by
 induction x with
 |nil=>rfl
 |cons a x ih=>
  simp only[map_cons,zD];grind
theorem zcf(x:List Int)(h:zD x≠0):0<zD (zJ x):=by
 unfold zJ;split
 ·rw[jM];omega
 grind
theorem zgW(hr:RedOK m){za:Int}(hb:0<=za)(exact:Bool):(zB m za exact).Nodup:=by
 have hl:=Z2 hr.small;unfold zB;split
 ·unfold qU;unfold List.Nodup;rw[List.pairwise_map];refine List.Pairwise.imp ?_ (List.Pairwise.filter _ nodup_range);grind
 ·have e:vD (zl m m.length) m.length*za=left (ent m) za (m.length-1+1) []:=by
   rw[(aa:m.length-1+1=m.length),zbf,qV Zr]
  rw[e];refine zgT hr hb exact (m.length-1) true [] aa af ?_ af;rw[<-e,qV Zr];exact Int.mul_nonneg (Int.le_of_lt (ZV hr.pos Zr)) hb
theorem zgX(hr:RedOK m){za:Int}(hb:0<=za)(exact:Bool):((zB m za exact).map zJ).Nodup:=by
 unfold List.Nodup;rw[List.pairwise_map];refine List.Pairwise.imp_of_mem ?_ (zgW hr hb exact);intro a b ha hb' hab e;exact hab (zmT ((Q5 hr hb exact a).1 ha).2.1 ((Q5 hr hb exact b).1 hb').2.1 e)
theorem zmU(hr:RedOK m){za:Int}(hb:0<=za)(hb1:za<1073741824)(exact:Bool)(x:List Int)(hx:x∈zB m za exact):VecOK m x:=by
 obtain⟨h1,h2,h3,_⟩:=(Q5 hr hb exact x).1 hx;have h4:=zd0 (zdZ hr hb hb1 x h1 h3);refine⟨by simp[Qr,h1,h4],?_,?_⟩
 ·have:=Jw hr x h1;simp only[Qt,decide_eq_true_eq];omega
 ·simp only[jG,h4,Bool.true_and,Bool.not_eq_true',decide_eq_false_iff_not];intro e;exact JX h2 (Jy e)
theorem zgY(h:zM m=true):RedM m:=by
 have hr:=Zk h;refine⟨h,zV hr.small,fun r hr' x hx=>?_,(Z2 hr.small).2⟩;obtain⟨i,j,hi,hj,rfl⟩:=zdM (zV hr.small) hr' hx;have:=((of_decide_eq_true hr.small).2.2.2 i hi j hj).2;omega
structure VecList(m:List (List Int))(za:Int)(exact:Bool)(L:List (List Int)):Prop where
 sorted:L.Pairwise (fun x y=>qs (zh m x) (zh m y) x y<0)
 mem:∀x,x∈L↔x.length=m.length/\0<zD x/\zh m x<=za/\(exact=true->zh m x=za)
theorem zd2(hr:RedOK m){za:Int}(hb:0<=za)(hp:L.Perm ((zB m za exact).map zJ))(hw:L.Pairwise (fun x y=>qs (zh m x) (zh m y) x y<0)):VecList m za exact L:=by
 refine⟨hw,fun x=>?_⟩;rw[hp.mem_iff,mem_map];constructor
 ·rintro⟨y,hy,rfl⟩;obtain⟨h1,h2,h3,h4⟩:=(Q5 hr hb exact y).1 hy;rw[JU,JV];exact⟨h1,zcf y (fun e=>JX h2 (Jy e)),h3,h4⟩
 ·rintro⟨h1,h2,h3,h4⟩;have hne:¬∀y∈x,y=0:=fun hz=>by
   have:zD x=0:=by
    clear h1 h2 h3 h4;induction x with
    |nil=>rfl
    |cons a x ih=>
     have ha:=hz a af;simp only[zD];grind
   omega
  rcases zce hne with h5|h5
  ·refine⟨x,(Q5 hr hb exact x).2 ⟨h1,h5,h3,h4⟩,?_⟩;unfold zJ;grind
  ·refine⟨x.map fun c=>-c,(Q5 hr hb exact _).2 ⟨ae,h5,by rw[jl];grind,by rw[jl];grind⟩,?_⟩;unfold zJ;rw[jM,if_pos aa,Jz]
theorem zmV(m:List (List Int))(x y:List Int)(h:qs (zh m x) (zh m y) x y<0):¬qs (zh m y) (zh m x) y x<0:=by
 rw[zdG]at h|-
 rw[Qc];omega
theorem VecList.nodup{za:Int}(h:VecList m za exact L):L.Nodup:=by
 refine List.Pairwise.imp ?_ h.sorted;intro a b hab e;subst e;exact zmV m a a hab hab
def Zn:List (Int×Int)->Int
 |[]=>0
 |p::ys=>p.2+Zn ys
def Zc:List (Int×Int)->Nat->Int
 |[],_=>0
 |p::ys,i=>(if (p.1-1).toNat=i then p.2 else 0)+Zc ys i
theorem zmW(a b:List (Int×Int)):Zn (a++b)=Zn a+Zn b:=by
 induction a with
 |nil=>simp[Zn]
 |cons p a ih=>simp only[cons_append,Zn];omega
theorem zmX(a b:List (Int×Int))(i:Nat):Zc (a++b) i=Zc a i+Zc b i:=by
 induction a with
 |nil=>simp[Zc]
 |cons p a ih=>simp only[cons_append,Zc];omega
theorem zmY(F:Nat->List (Int×Int))(l:List Nat):Zn (l.flatMap F)=(l.map fun j=>Zn (F j)).sum:=by
 induction l with
 |nil=>rfl
 |cons j l ih=>simp only[List.flatMap_cons,zmW,ih,map_cons,sum_cons]
theorem zgZ(F:Nat->List (Int×Int))(i:Nat)(l:List Nat):Zc (l.flatMap F) i=(l.map fun j=>Zc (F j) i).sum:=by
 induction l with
 |nil=>rfl
 |cons j l ih=>simp only[List.flatMap_cons,zmX,ih,map_cons,sum_cons]
theorem zmZ{l:List Nat}{B:Int}(h:∀j∈l,g j<=B):(l.map g).sum<=(l.length:Int)*B:=by
 induction l with
 |nil=>simp
 |cons j l ih=>
  have h1:=ih (fun x hx=>h x ae);have h2:=h j af;simp only[map_cons,sum_cons,length_cons,Int.natCast_add,Int.add_mul];omega
theorem zg0{l:List Nat}(h:∀j∈l,0<=g j):0<=(l.map g).sum:=by
 induction l with
 |nil=>simp
 |cons j l ih=>
  grind
theorem zm0{l:List Nat}(h:∀j∈l,0<=g j){a:Nat}(ha:a∈l):g a<=(l.map g).sum:=by
 induction l with
 |nil=>grind
 |cons j l ih=>
  have h0:=zg0 (fun x hx=>h x (List.mem_cons_of_mem j hx));grind
theorem zm1(n:Nat)(ys:List (Int×Int)):∀(left:Int)(st:List Int),(∀p∈ys,0<=p.2/\1<=p.1/\p.1<=n)->0<=left->st.length=n->
  QW ys left st=if Zn ys<=left then some (left-Zn ys,(List.range n).map fun i=>st.getD i 0+Zc ys i) else none:=by
 induction ys with
 |nil=>
  intro left st _ h0 hl;rw[if_pos (show Zn []<=left from h0)];have e1:left-Zn []=left:=by simp only[Zn];omega
  have e2:(List.range n).map (fun i=>st.getD i 0+Zc [] i)=st:=by
   refine List.ext_getElem (by simp[hl]) fun i h1 h2=>?_
   simp[List.getD,h2,Zc]
  rw[e1,e2];rfl
 |cons p ys ih=>
  obtain⟨len,cnt⟩:=p;intro left st hp h0 hl;have hp0:=hp (len,cnt) af;simp only at hp0;have zsP:0<=Zn ys:=by
   have:∀l:List (Int×Int),(∀p∈l,0<=p.2)->0<=Zn l:=fun l hh=>by
    induction l with
    |nil=>simp[Zn]
    |cons q l ih2=>have a:=ih2 (fun p hp=>hh p (by simp[hp]));have b:=hh q af;simp only[Zn];omega
   exact this ys (fun p hp'=>(hp p (by simp[hp'])).1)
  have htc:Zn ((len,cnt)::ys)=cnt+Zn ys:=rfl;simp only[QW];split
  ·rw[if_neg aa]
  ·rw[ih (left-cnt) _ (fun p hp'=>hp p (by simp[hp'])) aa (by simpa using hl)];by_cases h:Zn ys<=left-cnt
   ·rw[if_pos h,if_pos aa];have e1:left-cnt-Zn ys=left-Zn ((len,cnt)::ys):=aa
    rw[e1];congr 2
    ·refine List.map_congr_left fun i hi=>?_
     have hi':i<n:=by simpa using hi
     simp only[Zc,List.getD_eq_getElem?_getD,List.getElem?_set];grind
   ·rw[if_neg h,if_neg aa]
section
variable {m:List (List Int)} {za:Int}
theorem zd3(hr:RedOK m)(hb:0<=za):0<=left (ent m) za (m.length-1+1) []:=by
 have hl:=Z2 hr.small;rw[(aa:m.length-1+1=m.length),zbf];exact Int.mul_nonneg (Int.le_of_lt (ZV hr.pos Zr)) hb
theorem zm2(hr:RedOK m):vD (zl m m.length) m.length*za=left (ent m) za (m.length-1+1) []:=by
 have hl:=Z2 hr.small;rw[(aa:m.length-1+1=m.length),zbf,qV Zr]
theorem kid(hr:RedOK m)(t:List Int)(hk:k<m.length)(ht:t.length=m.length-1-k)(h0:0<=left (ent m) za (k+1) t)(hj:j<(Zf (zl m m.length) (zq m m.length) k (left (ent m) za (k+1) t) t).toNat):
  0<=left (ent m) za k ((zR (zl m m.length) (zq m m.length) k (left (ent m) za (k+1) t) t+(j:Int))::t):=by
 refine(Ju hr hk t ht h0 _).1 ?_;unfold Zf at hj;omega
theorem zg1(hr:RedOK m)(hb:0<=za)(hb1:za<1073741824)(k:Nat):∀t:List Int,k<m.length->t.length=m.length-1-k->0<=left (ent m) za (k+1) t->
  ∀p∈ZF (zl m m.length) (zq m m.length) m.length k (left (ent m) za (k+1) t) t,0<=p.2/\1<=p.1/\p.1<=(m.length:Int):=by
 induction k with
 |zero=>
  intro t hk ht h0 p hp;simp only[ZF]at hp;have:=zar (hr.num hb hb1) (zax hr hb hb1 t 0 hk ht h0);grind
 |succ k ih=>
  intro t hk ht h0 p hp;simp only[ZF,mem_cons,mem_flatMap,mem_range]at hp;rcases hp with rfl|⟨j,hj,hp⟩
  ·have:=zar (hr.num hb hb1) (zax hr hb hb1 t (k+1) hk ht h0);grind
  ·have hk0:=kid hr t hk ht h0 hj;rw[QZ hr hk za t ht]at hp;grind
theorem zm3{ys:List (Int×Int)}(h:∀p∈ys,0<=p.2)(i:Nat):0<=Zc ys i:=by
 induction ys with
 |nil=>simp[Zc]
 |cons p ys ih=>
  simp only[Zc];grind
theorem zm4(hr:RedOK m)(hb:0<=za)(hb1:za<1073741824)(k:Nat):∀t:List Int,k<m.length->t.length=m.length-1-k->0<=left (ent m) za (k+1) t->
  Zc (ZF (zl m m.length) (zq m m.length) m.length k (left (ent m) za (k+1) t) t) (m.length-1)=((Zs (zl m m.length) (zq m m.length) false k (left (ent m) za (k+1) t) false t).length:Int):=by
 induction k with
 |zero=>
  intro t hk ht h0;have:=zar (hr.num hb hb1) (zax hr hb hb1 t 0 hk ht h0);simp only[ZF,Zc,Zs,jm,Bool.false_and,Bool.not_false,Bool.and_self,if_true,List.length_flatMap];rw[if_pos aa];have e:jJ (zl m m.length) (zq m m.length) 0 (left (ent m) za (0+1) t) false t=(Zf (zl m m.length) (zq m m.length) 0 (left (ent m) za (0+1) t) t).toNat:=by rfl
  rw[e];simp only[length_cons,List.length_nil];rw[List.map_const',List.sum_replicate_nat];grind
 |succ k ih=>
  intro t hk ht h0;have e:jJ (zl m m.length) (zq m m.length) (k+1) (left (ent m) za (k+1+1) t) false t=(Zf (zl m m.length) (zq m m.length) (k+1) (left (ent m) za (k+1+1) t) t).toNat:=by simp[jJ,Z0,Zf]
  have e2:Z0 (zl m m.length) (zq m m.length) (k+1) (left (ent m) za (k+1+1) t) false t=zR (zl m m.length) (zq m m.length) (k+1) (left (ent m) za (k+1+1) t) t:=by simp[Z0]
  simp only[ZF,Zc,Zs,Bool.false_and];rw[if_neg aa,zgZ,e,e2];have key:∀l:List Nat,(∀j∈l,j<(Zf (zl m m.length) (zq m m.length) (k+1) (left (ent m) za (k+1+1) t) t).toNat)->
    (l.map fun j:Nat=>Zc (ZF (zl m m.length) (zq m m.length) m.length k (Z7 (zl m m.length) (zq m m.length) (k+1) (left (ent m) za (k+1+1) t) t (zR (zl m m.length) (zq m m.length) (k+1) (left (ent m) za (k+1+1) t) t+(j:Int))) ((zR (zl m m.length) (zq m m.length) (k+1) (left (ent m) za (k+1+1) t) t+(j:Int))::t)) (m.length-1)).sum=
    ((l.flatMap fun j:Nat=>Zs (zl m m.length) (zq m m.length) false k (Z7 (zl m m.length) (zq m m.length) (k+1) (left (ent m) za (k+1+1) t) t (zR (zl m m.length) (zq m m.length) (k+1) (left (ent m) za (k+1+1) t) t+(j:Int))) false ((zR (zl m m.length) (zq m m.length) (k+1) (left (ent m) za (k+1+1) t) t+(j:Int))::t)).length:Int):=by
   intro l;induction l with
   |nil=>intro _;rfl
   |cons j l ihl=>
    intro hl;have hk0:=kid hr t hk ht h0 (hl j af);simp only[map_cons,sum_cons,List.flatMap_cons,List.length_append,Int.natCast_add];rw[ihl (fun x hx=>hl x (by simp[hx])),QZ hr hk za t ht,ih _ aa (by simp[ht];omega) hk0]
  grind
theorem zm5(hr:RedOK m)(hb:0<=za)(hb1:za<1073741824)(k:Nat):∀t:List Int,k<m.length->t.length=m.length-1-k->(∀x∈t,x=0)->∀i,m.length-1-k<=i->i<m.length->
  1<=Zc (ZF (zl m m.length) (zq m m.length) m.length k (left (ent m) za (k+1) t) t) i:=by
 have zs7:∀(k:Nat)(t:List Int),k<m.length->t.length=m.length-1-k->(∀x∈t,x=0)->zR (zl m m.length) (zq m m.length) k (left (ent m) za (k+1) t) t<=0/\0<=Z6 (zl m m.length) (zq m m.length) k (left (ent m) za (k+1) t) t:=fun k t hk ht hz=>
  (Ju hr hk t ht (zbg hr hb aa t hz) 0).2 (zbg hr hb aa (0::t) (fun x hx=>by
   rcases mem_cons.1 hx with rfl|hx
   ·rfl
   ·exact hz x hx))
 induction k with
 |zero=>
  intro t hk ht hz i h1 h2;have:=zs7 0 t hk ht hz;simp only[ZF,Zc];rw[if_pos aa];unfold Zf;omega
 |succ k ih=>
  intro t hk ht hz i h1 h2;have h0:=zbg hr hb (aa:k+1+1<=m.length) t hz;have hc:=zs7 (k+1) t hk ht hz;have hok:=zg1 hr hb hb1 (k+1) t hk ht h0;simp only[ZF,Zc]at hok|-
  rw[zgZ];have hnn:∀j∈List.range (Zf (zl m m.length) (zq m m.length) (k+1) (left (ent m) za (k+1+1) t) t).toNat,0<=Zc (ZF (zl m m.length) (zq m m.length) m.length k (Z7 (zl m m.length) (zq m m.length) (k+1) (left (ent m) za (k+1+1) t) t (zR (zl m m.length) (zq m m.length) (k+1) (left (ent m) za (k+1+1) t) t+(j:Int))) ((zR (zl m m.length) (zq m m.length) (k+1) (left (ent m) za (k+1+1) t) t+(j:Int))::t)) i:=fun j hj=>
   zm3 (fun p hp=>(hok p (List.mem_cons_of_mem _ (mem_flatMap.2 ⟨j,hj,hp⟩))).1) i
  by_cases e:i=m.length-1-(k+1)
  ·rw[if_pos aa];have:=zg0 hnn;unfold Zf at this|-
   omega
  ·rw[if_neg aa];obtain⟨j,hj⟩:∃j:Nat,zR (zl m m.length) (zq m m.length) (k+1) (left (ent m) za (k+1+1) t) t+(j:Int)=0:=⟨(-zR (zl m m.length) (zq m m.length) (k+1) (left (ent m) za (k+1+1) t) t).toNat,aa⟩;have h3:=zm0 hnn (a:=j) (by simp only[mem_range];unfold Zf;omega);rw[hj,QZ hr hk za t ht]at h3;grind
theorem zm6(hr:RedOK m)(k:Nat):k<m.length->zF (ent m) k<=2^k*zF (ent m) (k+1):=by
 induction k with
 |zero=>
  intro hk;have:=ZV hr.pos (aa:0+1<=m.length);show (1:Int)<=1*zF (ent m) (0+1);omega
 |succ k ih=>
  intro hk;have h1:=ih aa;have hL:=hr.lov k hk;have hs:=(of_decide_eq_true (hr.short k hk)).2.2 1 (by rw[ZL];omega) aa;have e1:ent (zm m k).2 1 0=E (ent m) k (k+1) k:=Z1 (i:=1) (j:=0) aa aa;have e2:ent (zm m k).2 0 0=E (ent m) k k k:=Z1 (i:=0) (j:=0) aa aa;rw[e1,e2]at hs;have p0:=ZV hr.pos (aa:k<=m.length);have p1:0<E (ent m) k k k:=ZV hr.pos (aa:k+1<=m.length)
  have p2:0<E (ent m) (k+1) (k+1) (k+1):=ZV hr.pos (aa:k+1+1<=m.length);have h1':zF (ent m) k<=2^k*E (ent m) k k k:=h1;show E (ent m) k k k<=2^(k+1)*E (ent m) (k+1) (k+1) (k+1);obtain⟨x,hx⟩:=Yz (E (ent m) k k k);obtain⟨y,hy⟩:=Yz (E (ent m) k (k+1) k);obtain⟨u,hu⟩:=Yz (zF (ent m) k);obtain⟨v,hv⟩:=Yz (E (ent m) (k+1) (k+1) (k+1));rw[hx,hy,hu,hv]at hL;rw[hx,hy]at hs
  rw[hx]at p1 h1'|-
  rw[hu]at p0 h1';rw[hv]at p2|-
  have q:=Int.mul_nonneg ((aa:0<=x-2*y)) ((aa:0<=x+2*y));have q2:(x-2*y)*(x+2*y)=x*x-4*(y*y):=ae
  rw[q2]at q;have q3:x*x<=2*(u*v):=ae
  have q4:u*v<=2^k*x*v:=Int.mul_le_mul_of_nonneg_right h1' aa;have q5:x*x<=x*(2^(k+1)*v):=by
   have:x*(2^(k+1)*v)=2*(2^k*x*v):=ae
   omega
  simp_all
theorem zm7(hr:RedOK m)(hb:0<=za)(hb1:za<1073741824)(t:List Int)(hk:k<m.length)(ht:t.length=m.length-1-k)(h0:0<=left (ent m) za (k+1) t){c:Int}(hc:1<=c)(h:c<=Zf (zl m m.length) (zq m m.length) k (left (ent m) za (k+1) t) t):(c-1)*(c-1)<=4*(2^k*za):=by
 have hN:=hr.num hb hb1;have ztH:=zax hr hb hb1 t k hk ht h0;obtain⟨r0,_,r2⟩:=Jn hN ztH;have r1:=ztH.r1;have hd:=ZV hr.pos (aa:k+1<=m.length);have hd0:=ZV hr.pos (aa:k<=m.length);unfold Zf Z6 zR at h;unfold ZZ at r2;rw[qV aa]at h r1 r2;obtain⟨d,hd'⟩:∃d,d=zF (ent m) (k+1):=⟨_,rfl⟩;obtain⟨e,he⟩:=Xz (zF (ent m) k);obtain⟨r,hr'⟩:∃r,r=vR (zl m m.length) k (left (ent m) za (k+1) t):=⟨_,rfl⟩
 obtain⟨s,hs⟩:=Xz (qJ (zq m m.length) k t);obtain⟨R,hR⟩:=Xz (left (ent m) za (k+1) t);have hh:=zm6 hr k hk;rw[<-hd',<-he]at hh;rw[<-hd']at hd h r1;rw[<-hR]at r0 r1 r2 h0 hr';rw[<-hR,<-hr',<-hs]at h;rw[<-hr']at r0 r2;have a1:=Int.mul_ediv_self_le (x:=r+s) (k:=d) aa;have a2:=Int.mul_ediv_self_le (x:=r-s) (k:=d) aa;-- d (c - 1) <= 2 r
 have b1:d*(c-1)<=2*r:=by
  have:d*(c-1)<=d*((r+s) / d+(r-s) / d):=Int.mul_le_mul_of_nonneg_left aa aa;grind
 have b0:0<=d*(c-1):=Int.mul_nonneg aa aa;have b2:d*(c-1)*(d*(c-1))<=2*r*(2*r):=Int.mul_le_mul b1 b1 b0 aa;have b3:e*R<=e*(d*za):=Int.mul_le_mul_of_nonneg_left r1 aa;have b4:e*(d*za)<=2^k*d*(d*za):=Int.mul_le_mul_of_nonneg_right hh (Int.mul_nonneg aa hb);have b5:(d*d)*((c-1)*(c-1))<=(d*d)*(4*(2^k*za)):=ae
 exact Int.le_of_mul_le_mul_left b5 (Int.mul_pos hd hd)
def j5(b:Nat):Nat->Nat
 |0=>zw (4*b)+1
 |k+1=>(zw (4*(2^(k+1)*b))+1)*(1+j5 b k)
theorem zg2(hr:RedOK m)(hb1:(b:Int)<1073741824)(t:List Int)(hk:k<m.length)(ht:t.length=m.length-1-k)(h0:0<=left (ent m) b (k+1) t):Zf (zl m m.length) (zq m m.length) k (left (ent m) b (k+1) t) t<=(zw (4*(2^k*b))+1:Nat):=by
 rcases Int.lt_or_le (Zf (zl m m.length) (zq m m.length) k (left (ent m) b (k+1) t) t) 1 with h|h
 ·omega
 ·have h1:=zm7 hr aa hb1 t hk ht h0 h (Int.le_refl _);obtain⟨c,hc⟩:∃c:Nat,Zf (zl m m.length) (zq m m.length) k (left (ent m) b (k+1) t) t-1=(c:Int):=⟨(Zf (zl m m.length) (zq m m.length) k (left (ent m) b (k+1) t) t-1).toNat,aa⟩;have h2:c*c<=4*(2^k*b):=ae
  have h3:=(Qb (4*(2^k*b))).2;have h4:=za1 (Nat.lt_of_le_of_lt h2 h3);omega
theorem zm8(hr:RedOK m)(hb1:(b:Int)<1073741824)(k:Nat):∀t:List Int,k<m.length->t.length=m.length-1-k->0<=left (ent m) b (k+1) t->Zn (ZF (zl m m.length) (zq m m.length) m.length k (left (ent m) b (k+1) t) t)<=(j5 b k:Nat):=by
 induction k with
 |zero=>
  intro t hk ht h0;have:=zg2 hr hb1 t hk ht h0;simp only[ZF,Zn,j5];grind
 |succ k ih=>
  intro t hk ht h0;have h1:=zg2 hr hb1 t hk ht h0;have h2:=zar (hr.num aa hb1) (zax hr aa hb1 t (k+1) hk ht h0);simp only[ZF,Zn,j5];rw[zmY];have h3:=zmZ (l:=List.range (Zf (zl m m.length) (zq m m.length) (k+1) (left (ent m) b (k+1+1) t) t).toNat) (B:=((j5 b k:Nat):Int))
   (g:=fun j=>Zn (ZF (zl m m.length) (zq m m.length) m.length k (Z7 (zl m m.length) (zq m m.length) (k+1) (left (ent m) b (k+1+1) t) t (zR (zl m m.length) (zq m m.length) (k+1) (left (ent m) b (k+1+1) t) t+(j:Int))) ((zR (zl m m.length) (zq m m.length) (k+1) (left (ent m) b (k+1+1) t) t+(j:Int))::t)))
   (fun j hj=>by
    have hk0:=kid hr t hk ht h0 (j:=j) ae;rw[QZ hr hk b t ht];grind)
  obtain⟨c,hc⟩:∃c:Nat,Zf (zl m m.length) (zq m m.length) (k+1) (left (ent m) b (k+1+1) t) t=(c:Int):=⟨(Zf (zl m m.length) (zq m m.length) (k+1) (left (ent m) b (k+1+1) t) t).toNat,aa⟩;have h5:c*(1+j5 b k)<=(zw (4*(2^(k+1)*b))+1)*(1+j5 b k):=Nat.mul_le_mul_right _ aa;grind
end
theorem zm9(n a:Nat)(c:Int)(h:a<n):((List.range n).map fun i=>if a=i then c else 0).sum=c:=by
 induction n with
 |zero=>omega
 |succ n ih=>
  rw[List.range_succ,List.map_append,List.sum_append];by_cases e:a=n
  ·have:∀l:List Nat,(∀i∈l,i<n)->(l.map fun i=>if a=i then c else 0).sum=0:=fun l hl=>by
    induction l with
    |nil=>rfl
    |cons i l ih2=>
     grind
   grind
  grind
theorem zna(l:List Nat)(f g:Nat->Int):(l.map fun i=>f i+g i).sum=(l.map f).sum+(l.map g).sum:=by
 induction l with
 |nil=>rfl
 |cons i l ih=>grind
theorem zg3(n:Nat)(ys:List (Int×Int))(h:∀p∈ys,1<=p.1/\p.1<=(n:Int)):((List.range n).map (Zc ys)).sum=Zn ys:=by
 induction ys with
 |nil=>
  have:∀l:List Nat,(l.map (Zc [])).sum=0:=fun l=>by
   induction l with
   |nil=>rfl
   |cons i l ih=>rw[map_cons,sum_cons,ih];rfl
  exact this _
 |cons p ys ih=>
  have h1:=ih (fun q hq=>h q ae);have h2:=h p af;have e:(Zc (p::ys))=fun i=>(if (p.1-1).toNat=i then p.2 else 0)+Zc ys i:=rfl
  rw[e,zna,zm9 n _ _ aa,h1];rfl
theorem znb(hr:RedOK m){za:Int}(hb:0<=za)(h2:2<=m.length):
  (Zs (zl m m.length) (zq m m.length) false (m.length-1) (left (ent m) za (m.length-1+1) []) false []).length=2*(zB m za false).length+1:=by
 have zsy:=zV hr.small;have ztI:=zd3 hr hb;have hmemF:∀x,x∈Zs (zl m m.length) (zq m m.length) false (m.length-1) (left (ent m) za (m.length-1+1) []) false []↔x.length=m.length/\zh m x<=za:=fun x=>by
  rw[zcd hr hb false x (m.length-1) false [] aa af ztI af];constructor
  ·rintro⟨p,rfl,hp,a1,_,_⟩;simp only[List.append_nil]at a1|-
   have hpl:p.length=m.length:=aa
   rw[Jv zsy za p hpl]at a1;exact⟨hpl,aa⟩
  ·rintro⟨a1,a2⟩;rw[Jv zsy za x a1];exact⟨x,af,aa,aa,af,af⟩
 have hnd:=zgT hr hb false (m.length-1) false [] aa af ztI af;have zs2:=Q5 hr hb false;have zuQ:=zgW hr hb false;obtain⟨C,hC⟩:=Xz (zB m za false);rw[<-hC]at zs2 zuQ|-
 have hz:ql (List.replicate m.length 0)->False:=fun h=>JX h (fun y hy=>List.eq_of_mem_replicate hy)
 have zwZ:((List.replicate m.length 0)::(C++C.map (List.map fun c=>-c))).Nodup:=by
  refine List.nodup_cons.2 ⟨fun hh=>?_,List.nodup_append.2 ⟨zuQ,?_,?_⟩⟩
  ·rcases List.mem_append.1 hh with hh|hh
   ·exact hz ((zs2 _).1 hh).2.1
   ·obtain⟨y,hy,e⟩:=mem_map.1 hh;have hy2:=((zs2 y).1 hy).2.1;exact JX hy2 (fun c hc=>by
     have:-c∈List.replicate m.length (0:Int):=by rw[<-e];exact mem_map.2 ⟨c,hc,rfl⟩
     have:=List.eq_of_mem_replicate this;omega)
  ·unfold List.Nodup;rw[List.pairwise_map];refine List.Pairwise.imp ?_ zuQ;intro a b hab e;have:=congrArg (List.map fun c=>-c) e;rw[Jz,Jz]at this;exact hab this
  ·intro a ha b hb' e;obtain⟨y,hy,rfl⟩:=mem_map.1 hb';subst e;exact zd1 ((zs2 y).1 hy).2.1 ((zs2 _).1 ha).2.1
 have hp:=(List.perm_ext_iff_of_nodup hnd zwZ).2 fun x=>by
  rw[hmemF,mem_cons,List.mem_append,zs2];constructor
  ·rintro⟨a1,a2⟩;by_cases h0:∀y∈x,y=0
   ·exact .inl (List.eq_replicate_iff.2 ⟨a1,h0⟩)
   ·rcases zce h0 with h|h
    ·exact .inr (.inl ⟨a1,h,a2,af⟩)
    ·refine .inr (.inr (mem_map.2 ⟨x.map fun c=>-c,(zs2 _).2 ⟨by simpa using a1,h,by rw[jl];exact a2,af⟩,Jz x⟩))
  ·rintro(rfl|⟨a1,_,a3,_⟩|hx)
   ·refine⟨af,?_⟩;have:=zbg hr hb (aa:0<=m.length) (List.replicate m.length 0) (fun y hy=>List.eq_of_mem_replicate hy);rw[Jv zsy za _ af]at this;omega
   ·exact⟨a1,a3⟩
   ·obtain⟨y,hy,rfl⟩:=mem_map.1 hx;obtain⟨b1,_,b3,_⟩:=(zs2 y).1 hy;rw[jl];exact⟨by simpa using b1,b3⟩
 have:=hp.length_eq;simp at this;omega
structure StepsOK(m:List (List Int))(za:Int)(st:List Int)(total:Int):Prop where
 spec:∀budget:Int,0<=budget->budget<=1000000->qh m za budget=if total<=budget then (st,0) else ([],9)
 len:st.length=m.length
 sum:st.sum=total
 one:∀x∈st,1<=x
 zd:qt st=2*(zB m za false).length+1
theorem znc{za:Int}(r:Nat):(qU h za false r).length=r:=by
 unfold qU;rw[List.length_map,List.filter_eq_self.2 af,List.length_range]
theorem zd4(l:List Int)(h:∀x∈l,1<=x):(l.length:Int)<=l.sum:=by
 induction l with
 |nil=>simp
 |cons a l ih=>
  have:=h a af;grind
def zP(m:List (List Int))(b:Int):Int:=Zn (qK (zl m m.length) (zq m m.length) m.length b)
def stS(m:List (List Int))(b:Int):List Int:=(List.range m.length).map (Zc (qK (zl m m.length) (zq m m.length) m.length b))
theorem zcg(h:zM m=true)(hb1:(b:Int)<1073741824):StepsOK m b (stS m b) (zP m b)/\(zP m b<=(j5 b (m.length-1):Nat)∨(m.length=1/\zP m b<=2*zw b+1)):=by
 have hr:=Zk h;have hl:=Z2 hr.small;have zw0:jE m b=false:=by simp[jE];omega
 obtain⟨ys,hys⟩:=Xz (qK (zl m m.length) (zq m m.length) m.length b);have e1:zP m b=Zn ys:=by rw[hys];rfl
 have e2:stS m b=(List.range m.length).map (Zc ys):=by rw[hys];rfl
 rw[e1,e2];have zto:(∀p∈ys,0<=p.2/\1<=p.1/\p.1<=(m.length:Int))->∀budget:Int,0<=budget->budget<=1000000->qh m b budget=if Zn ys<=budget then ((List.range m.length).map (Zc ys),0) else ([],9):=fun hok budget b0 b1=>by
  have zw1:ji b budget=true:=by simp[ji];omega
  unfold qh;rw[h,zw1,zw0];simp only[if_true,Bool.false_eq_true,if_false];unfold za8;rw[<-hys,zm1 m.length ys budget _ hok b0 af];have e:((List.range m.length).map fun i=>(List.replicate m.length (0:Int)).getD i 0+Zc ys i)=(List.range m.length).map (Zc ys):=by
   refine List.map_congr_left fun i hi=>?_
   have hi':i<m.length:=by simpa using hi
   simp[List.getD,hi']
  rw[e];by_cases ht:Zn ys<=budget
  ·rw[if_pos ht,if_pos ht]
  ·rw[if_neg ht,if_neg ht]
 have zsS:∀F:Nat->Int,qt ((List.range m.length).map F)=F (m.length-1):=fun F=>by
  have:m.length-1<m.length:=aa
  simp[qt,List.getD,this]
 by_cases h1:m.length=1
 ·have hy:ys=[(1,2*((zw ((b:Int) / vD (zl m m.length) 1).toNat:Nat):Int)+1)]:=by rw[hys];unfold qK;rw[if_pos h1]
  have hok:∀p∈ys,0<=p.2/\1<=p.1/\p.1<=(m.length:Int):=fun p hp=>by
   rw[hy]at hp;obtain rfl:p=_:=by simpa using hp
   simp only;omega
  have hd:vD (zl m m.length) 1=ent m 0 0:=by
   rw[qV aa];rfl
  refine⟨⟨zto hok,af,zg3 _ ys (fun p hp=>(hok p hp).2),fun x hx=>?_,?_⟩,.inr ⟨h1,?_⟩⟩
  ·obtain⟨i,hi,rfl⟩:=mem_map.1 hx
   have hi':i=0:=by have :i<m.length:=by simpa using hi
                    omega
   subst hi';rw[hy];simp only[Zc];rw[if_pos ac];omega
  ·rw[zsS,hy,(aa:m.length-1=0)];simp only[Zc];rw[if_pos ac];have e:zB m b false=qU (ent m 0 0) b false (zw ((b:Int) / ent m 0 0).toNat):=by unfold zB;rw[if_pos h1]
   rw[e,znc,hd];omega
  ·rw[hy];simp only[Zn];have q:((b:Int) / vD (zl m m.length) 1).toNat<=b:=by
    rw[hd];have:=Int.ediv_le_self (a:=(b:Int)) (ent m 0 0) aa;omega
   have:zw ((b:Int) / vD (zl m m.length) 1).toNat<=zw b:=by
    obtain⟨s1,_⟩:=Qb ((b:Int) / vD (zl m m.length) 1).toNat;obtain⟨_,s2⟩:=Qb b;have:=za1 (Nat.lt_of_le_of_lt (Nat.le_trans s1 q) s2);omega
   omega
 ·have hy:ys=ZF (zl m m.length) (zq m m.length) m.length (m.length-1) (left (ent m) b (m.length-1+1) []) []:=by
   rw[hys];unfold qK;rw[if_neg h1,zm2 hr]
  have ztI:=zd3 (za:=(b:Int)) hr aa;have hok:=zg1 hr aa hb1 (m.length-1) [] aa af ztI;rw[<-hy]at hok;refine⟨⟨zto hok,af,zg3 _ ys (fun p hp=>(hok p hp).2),fun x hx=>?_,?_⟩,.inl ?_⟩
  ·obtain⟨i,hi,rfl⟩:=mem_map.1 hx;have hi':i<m.length:=by simpa using hi
   rw[hy];exact zm5 hr aa hb1 (m.length-1) [] aa af af i aa hi'
  ·rw[zsS,hy,zm4 hr aa hb1 (m.length-1) [] aa af ztI,znb hr aa aa];omega
  ·rw[hy];exact zm8 hr hb1 (m.length-1) [] aa af ztI
theorem StepsOK.last_le{za:Int}{st:List Int}{total:Int}(h:StepsOK m za st total)(h1:1<=m.length):qt st+(m.length-1:Nat)<=total:=by
 have hl:=h.len;have hs:=h.sum;obtain⟨p,c,rfl,hp⟩:=zcc (p:=st) (k:=m.length-1) aa;have e:qt (p++[c])=c:=by simp[qt]
 have h2:=zd4 p (fun x hx=>h.one x ae);grind
theorem znd(h:zM m=true)(hb1:(b:Int)<1073741824)(exact:Bool)(zss:(zB m b exact).length<=1073741824):EnumOK m b exact:=by
 have hr:=Zk h;refine⟨hr.form,hr.s64,zgY h,aa,fun _=>hb1,fun h1=>?_,zss,fun x hx=>zmU hr aa hb1 exact x hx,zgX hr aa exact⟩;have q:((b:Int) / ent m 0 0).toNat<=b:=by
  have:=Int.ediv_le_self (a:=(b:Int)) (ent m 0 0) aa;omega
 obtain⟨s1,_⟩:=Qb ((b:Int) / ent m 0 0).toNat;rcases Zl (zw ((b:Int) / ent m 0 0).toNat) 1048577 with h2|h2
 ·omega
 ·have:=Nat.mul_le_mul h2 h2;omega
end
section
open Go.RowKit
def RowI(w:World)(b:Nat)(zs:List Int):Prop:=∃cs:List Value,VRow w b 102 cs/\zs.length*2<=cs.length/\VsOf w cs zs
section
variable {w w':World} {b:Nat} {zs:List Int}
theorem VsOf.map{vs:List Value}(h:VsOf w vs zs)(hk:∀{g:Bool}{B:Option Addr}{n c:Nat}{z:Int},IntV w g B n c z->IntV w' g B n c z):VsOf w' vs zs:=fun i z hz=>by
 obtain⟨g,B,n,c,a1,a2,a3⟩:=h i z hz;exact⟨g,B,n,c,a1,a2,hk a3⟩
theorem RowI.ext(h:RowI w b zs)(hx:Ext w w'):RowI w' b zs:=by
 obtain⟨cs,h1,h2,h3⟩:=h;exact⟨cs,h1.ext hx,h2,h3.map fun hz=>hz.ext hx⟩
theorem RowI.oth{T:TypeId}(h:RowI w b zs)(ho:Oth T w w')(h1:102≠T)(h2:212≠T):RowI w' b zs:=by
 obtain⟨cs,a1,a2,a3⟩:=h;exact⟨cs,ho _ _ _ _ h1 a1,a2,a3.map fun hz=>hz.oth ho h2⟩
theorem RowI.heap(h:RowI w b zs):∃cs,w.heap[b]? =some (.cells cs 102 (0,0)):=by
 obtain⟨cs,h1,_⟩:=h;exact⟨_,h1⟩
theorem RowI.lt(h:RowI w b zs):b<w.heap.size:=by
 obtain⟨cs,h1⟩:=h.heap;exact zi h1
theorem RowI.far(h:RowI w b zs){p:Addr}{fr:Nat×Nat}(hp:w.heap[p.block]? =some (.cells cs 102 fr))(hne:b≠p.block)(u:Value):RowI (w.setCell p u) b zs:=by
 obtain⟨cs,h1,h2,h3⟩:=h;exact⟨cs,h1.far hne u,h2,h3.map fun hz=>hz.setCell hp ac u⟩
theorem RowI.far2(h:RowI w b zs){b':Nat}(hp:w.heap[b']? =some (.cells cs 102 (0,0)))(hne:b≠b')(u v:Value):RowI ((w.setCell ⟨b',i,none⟩ u).setCell ⟨b',j,none⟩ v) b zs:=
 (h.far (p:=⟨b',i,none⟩) hp hne u).far (p:=⟨b',j,none⟩) (zX hp u) hne v
theorem RowI.intsV(h:RowI w b zs):IntsV w (some ⟨b,0,none⟩) zs:=by
 obtain⟨cs,h1,h2,h3⟩:=h;refine⟨cs.take (zs.length*2),by simp;omega,fun h0=>⟨b,0,cs.toArray,(0,0),rfl,h1,fun j u hu=>?_⟩,fun i z hz=>?_⟩
 ·rw[List.getElem?_take]at hu;split at hu
  ·simpa using hu
  ·cases hu
 ·have hi:i<zs.length:=(Zg.1 hz).1;obtain⟨g,B,n,c,a1,a2,a3⟩:=h3 i z hz;exact⟨g,B,n,c,by rw[List.getElem?_take,if_pos aa];exact a1,by rw[List.getElem?_take,if_pos aa];exact a2,a3⟩
theorem RowI.cells(h:RowI w b zs)(hz:zs[j]? =some z):∃g B n c,w.cell? ⟨b,j*2,none⟩=some (.bool g)/\w.cell? ⟨b,j*2+1,none⟩=some (.slice B n c)/\IntV w g B n c z/\w.frozen? ⟨b,j*2,none⟩=false/\w.frozen? ⟨b,j*2+1,none⟩=false:=by
 obtain⟨cs,h1,h2,h3⟩:=h;obtain⟨g,B,n,c,a1,a2,a3⟩:=h3 j z hz;exact⟨g,B,n,c,h1.cell a1,h1.cell a2,a3,h1.frozen _,h1.frozen _⟩
theorem RowI.set(h:RowI w b zs)(hj:j<zs.length){g:Bool}(hz:IntV w g B n c z):RowI ((w.setCell ⟨b,j*2,none⟩ (.bool g)).setCell ⟨b,j*2+1,none⟩ (.slice B n c)) b (zs.set j z):=by
 obtain⟨cs,h1,h2,h3⟩:=h;have key:∀{s':Bool}{B':Option Addr}{n' c':Nat}{z:Int},IntV w s' B' n' c' z->IntV ((w.setCell ⟨b,j*2,none⟩ (.bool g)).setCell ⟨b,j*2+1,none⟩ (.slice B n c)) s' B' n' c' z:=fun hz'=>
  (hz'.setCell (p:=⟨b,j*2,none⟩) h1 ac _).setCell (p:=⟨b,j*2+1,none⟩) (h1.set _ _) ac _
 refine⟨_,(h1.set (j*2) (.bool g)).set (j*2+1) (.slice B n c),by simp;omega,fun i y hy=>?_⟩;by_cases e:i=j
 ·subst e;rw[getElem?_set_self hj]at hy;injection hy with hy
  subst hy;refine⟨g,B,n,c,?_,?_,key hz⟩
  ·rw[getElem?_set_ne aa,getElem?_set_self aa]
  ·rw[getElem?_set_self (by rw[length_set];omega)]
 ·rw[getElem?_set_ne aa]at hy;obtain⟨g',B',n',c',a1,a2,a3⟩:=h3 i y hy;refine⟨g',B',n',c',?_,?_,key a3⟩
  ·rw[getElem?_set_ne aa,getElem?_set_ne aa];exact a1
  ·rw[getElem?_set_ne aa,getElem?_set_ne aa];exact a2
theorem RowI.drewN(h:RowI w b zs)(k:Nat):RowI (w.drewN k) b zs:=h.ext Zi
end
def z8(n:Nat)(h:Nat×Nat):Value:= .slice (some ⟨h.1,0,none⟩) n h.2
structure OwnI(w:World)(lo g n:Nat)(hs:List (Nat×Nat))(a:List (List Int)):Prop where
 head:VRow w g 95 (hs.map (z8 n))
 glo:lo<=g
 len:hs.length=a.length
 dist:∀(i j:Nat)(p q:Nat×Nat),hs[i]? =some p->hs[j]? =some q->i≠j->p.1≠q.1
 new:∀h∈hs,lo<=h.1/\n<=h.2/\h.2<=9223372036854775807
 all:AllLen a n
 row:∀(i:Nat)(h:Nat×Nat)(r:List Int),hs[i]? =some h->a[i]? =some r->RowI w h.1 r
section
variable {w w':World} {lo g n:Nat} {hs:List (Nat×Nat)} {a:List (List Int)}
theorem OwnI.ext(h:OwnI w lo g n hs a)(hx:Ext w w'):OwnI w' lo g n hs a:=
 ⟨h.head.ext hx,h.glo,h.len,h.dist,h.new,h.all,fun i p r hp hr=>(h.row i p r hp hr).ext hx⟩
theorem OwnI.hdr(h:OwnI w lo g n hs a)(hi:i<a.length):∃b c,hs[i]? =some (b,c)/\w.cell? ⟨g,i,none⟩=some (.slice (some ⟨b,0,none⟩) n c)/\w.frozen? ⟨g,i,none⟩=false/\n<=c/\c<=9223372036854775807/\b<w.heap.size/\g<w.heap.size:=by
 have hi':i<hs.length:=by rw[h.len];exact hi
 obtain⟨⟨b,c⟩,hp⟩:∃p,hs[i]? =some p:=⟨_,Ze hi'⟩;obtain⟨r,hr⟩:∃r,a[i]? =some r:=⟨_,Ze hi⟩;have hn:=h.new _ (Zm hp);exact⟨b,c,hp,h.head.cell (by simp[hp,z8]),h.head.frozen _,hn.2.1,hn.2.2,(h.row i _ r hp hr).lt,h.head.lt⟩
theorem zd5{r:List Int}(hr:m[i]? =some r)(hj:j<r.length):r[j]? =some (ent m i j):=by
 unfold ent;simp[hr,hj]
theorem OwnI.entry(h:OwnI w lo g n hs a)(hp:hs[i]? =some (b,c))(hi:i<a.length)(hj:j<n):∃s B k d,w.cell? ⟨b,j*2,none⟩=some (.bool s)/\w.cell? ⟨b,j*2+1,none⟩=some (.slice B k d)/\IntV w s B k d (ent a i j)/\w.frozen? ⟨b,j*2,none⟩=false/\w.frozen? ⟨b,j*2+1,none⟩=false:=by
 obtain⟨r,hr⟩:∃r,a[i]? =some r:=⟨_,Ze hi⟩;exact(h.row i _ r hp hr).cells (zd5 hr (by rw[h.all r (Zm hr)];exact hj))
theorem OwnI.mat(h:OwnI w lo g n hs a):MatV w (some ⟨g,0,none⟩) a:=by
 refine⟨hs.map (z8 n),by simp[h.len],h.head.arr,fun i r hr=>?_⟩;have hi:i<a.length:=(Zg.1 hr).1;obtain⟨⟨b,c⟩,hp⟩:∃p,hs[i]? =some p:=⟨_,Ze (by rw[h.len];exact hi)⟩;have hn:=h.new _ (Zm hp);have hl:=h.all r (Zm hr);refine⟨some ⟨b,0,none⟩,c,by simp[hp,z8,hl],(h.row i _ r hp hr).intsV,by rw[hl];exact hn.2.1,hn.2.2⟩
def zI(a:List (List Int))(i j:Nat)(z:Int):List (List Int):=a.set i ((a.getD i []).set j z)
theorem zg4{a:List (List Int)}(hi:i<a.length)(hj:j<(a.getD i []).length)(x y:Nat):ent (zI a i j z) x y=if x=i/\y=j then z else ent a x y:=by
 unfold ent zI;by_cases hx:x=i
 ·subst hx;by_cases hy:y=j
  ·subst hy;simp only[List.getD_eq_getElem?_getD]at hj|-
   rw[getElem?_set_self hi,Option.getD_some,getElem?_set_self hj];simp
  ·simp only[List.getD_eq_getElem?_getD];rw[getElem?_set_self hi,Option.getD_some,getElem?_set_ne aa];simp[hy]
 ·simp only[List.getD_eq_getElem?_getD];rw[getElem?_set_ne aa];simp[hx]
theorem j6(a:List (List Int))(i j:Nat)(z:Int):(zI a i j z).length=a.length:=by simp[zI]
theorem OwnI.set(h:OwnI w lo g n hs a)(hp:hs[i]? =some (b,c))(hi:i<a.length)(hj:j<n){s:Bool}{d:Nat}(hz:IntV w s B k d z):
  OwnI ((w.setCell ⟨b,j*2,none⟩ (.bool s)).setCell ⟨b,j*2+1,none⟩ (.slice B k d)) lo g n hs (zI a i j z):=by
 obtain⟨r,hr⟩:∃r,a[i]? =some r:=⟨_,Ze hi⟩;have hR:=h.row i _ r hp hr;have hl:=h.all r (Zm hr);obtain⟨cs,hcs⟩:=hR.heap;have hgd:a.getD i []=r:=by simp[List.getD,hr]
 have hgb:g≠b:=fun e=>by
  have h1:=h.head;unfold VRow at h1;rw[e,hcs]at h1;injection h1 with h1
  injection h1 with _ h1
  exact absurd h1 ac
 refine⟨(h.head.far (p:=⟨b,j*2,none⟩) hgb _).far (p:=⟨b,j*2+1,none⟩) hgb _,h.glo,by rw[j6];exact h.len,h.dist,h.new,fun x hx=>?_,fun i' p' r' hp' hr'=>?_⟩
 ·rcases List.mem_or_eq_of_mem_set hx with hx|rfl
  ·exact h.all x hx
  ·rw[hgd,length_set,hl]
 ·by_cases e:i'=i
  ·subst e;rw[hp]at hp';injection hp' with hp'
   subst hp';unfold zI at hr';rw[getElem?_set_self hi,hgd]at hr';injection hr' with hr'
   subst hr';exact hR.set aa hz
  ·unfold zI at hr';rw[getElem?_set_ne aa]at hr';exact(h.row i' p' r' hp' hr').far2 hcs (h.dist _ _ _ _ hp' hp e) _ _
theorem OwnI.swap(h:OwnI w lo g n hs a){p k:Nat}{hp hk:Nat×Nat}(h1:hs[p]? =some hp)(h2:hs[k]? =some hk)(hpa:p<a.length)(hka:k<a.length):
  OwnI ((w.setCell ⟨g,p,none⟩ (z8 n hk)).setCell ⟨g,k,none⟩ (z8 n hp)) lo g n ((hs.set p hk).set k hp) ((a.set p (a.getD k [])).set k (a.getD p [])):=by
 have hpl:p<hs.length:=(Zg.1 h1).1;have hkl:k<hs.length:=(Zg.1 h2).1;have e1:((w.setCell ⟨g,p,none⟩ (z8 n hk)).setCell ⟨g,k,none⟩ (z8 n hp)).heap[g]? =some (.cells ((((hs.set p hk).set k hp).map (z8 n)).toArray) 95 (0,0)):=by
  have:=(h.head.set p (z8 n hk)).set k (z8 n hp);unfold VRow at this;rw[this,List.map_set,List.map_set]
 have zsJ:Oth 95 w ((w.setCell ⟨g,p,none⟩ (z8 n hk)).setCell ⟨g,k,none⟩ (z8 n hp)):=Oth.set2 h.head p k _ _;have zsX:∀i q,((hs.set p hk).set k hp)[i]? =some q->∃i',hs[i']? =some q/\((a.set p (a.getD k [])).set k (a.getD p []))[i]? =a[i']? :=fun i q hq=>by
  by_cases hik:i=k
  ·subst hik;rw[getElem?_set_self (by rw[length_set];exact hkl)]at hq;injection hq with hq
   subst hq;refine⟨p,h1,?_⟩;rw[getElem?_set_self (by rw[length_set];exact hka),List.getD,Ze hpa];rfl
  ·rw[getElem?_set_ne aa]at hq;by_cases hip:i=p
   ·subst hip;rw[getElem?_set_self hpl]at hq;injection hq with hq
    subst hq;refine⟨k,h2,?_⟩;rw[getElem?_set_ne aa,getElem?_set_self hpa,List.getD,Ze hka];rfl
   ·rw[getElem?_set_ne aa]at hq;refine⟨i,hq,?_⟩;rw[getElem?_set_ne aa,getElem?_set_ne aa]
 refine⟨e1,h.glo,by simp[h.len],?_,fun q hq=>?_,fun r hr=>?_,fun i q r hq hr=>?_⟩
 ·have wh:∀i q,((hs.set p hk).set k hp)[i]? =some q->hs[(if i=k then p else if i=p then k else i)]? =some q:=fun i q hq=>by
   by_cases hik:i=k
   ·subst hik;rw[getElem?_set_self (by rw[length_set];exact hkl)]at hq;rw[if_pos rfl,h1];exact hq
   ·rw[getElem?_set_ne aa]at hq;rw[if_neg hik];by_cases hip:i=p
    ·subst hip;rw[getElem?_set_self hpl]at hq;rw[if_pos rfl,h2];exact hq
    ·rw[getElem?_set_ne aa]at hq;rw[if_neg hip];exact hq
  intro i j q1 q2 hq1 hq2 hij;refine h.dist _ _ _ _ (wh i q1 hq1) (wh j q2 hq2) ?_;split<;>split<;>(try split)<;>(try split)<;>omega
 ·obtain⟨i,hi⟩:=List.getElem?_of_mem hq;obtain⟨i',h3,_⟩:=zsX i q hi;exact h.new q (Zm h3)
 ·obtain⟨i,hi⟩:=List.getElem?_of_mem hr;obtain⟨q,hq⟩:∃q,((hs.set p hk).set k hp)[i]? =some q:=⟨_,Ze (by have:=(Zg.1 hi).1;simp at this|-;rw[h.len];exact this)⟩;obtain⟨i',_,h4⟩:=zsX i q hq;rw[h4]at hi;exact h.all r (Zm hi)
 ·obtain⟨i',h3,h4⟩:=zsX i q hq;rw[h4]at hr;exact(h.row i' q r h3 hr).oth zsJ ac ac
end
end
section
theorem zch(j:Nat):(4294967296:Int)^j=2^(32*j):=by
 rw[Int.pow_mul];rfl
theorem zg5{x:Int}(hx:l[j]? =some x):val l=val (l.take j)+(4294967296:Int)^j*(x+4294967296*val (l.drop (j+1))):=by
 have hj:j<l.length:=(Zg.1 hx).1;have h1:=zbO (l:=l) j;rw[List.length_take,Nat.min_eq_left aa]at h1;have h2:l.drop j=x::l.drop (j+1):=by
  rw[List.drop_eq_getElem_cons hj,(Zg.1 hx).2]
 rw[h2]at h1;exact h1
theorem zne(hl:Limbs l){x:Int}(hx:l[j]? =some x)(hk:k<32):(x / 2^k)%2=(val l / 2^(32*j+k))%2:=by
 have h1:=zg5 hx;have h2:=QC (hl.take j);have h3:=qH (hl.take j);have hj:j<l.length:=(Zg.1 hx).1;rw[List.length_take,Nat.min_eq_left aa]at h3;have hp:=jf j;have e1:val l / (4294967296:Int)^j=x+4294967296*val (l.drop (j+1)):=by
  rw[h1,Int.add_mul_ediv_left _ _ aa,Int.ediv_eq_zero_of_lt h2 h3];omega
 have e2:val l / 2^(32*j+k)=val l / (4294967296:Int)^j / 2^k:=by
  rw[Int.pow_add,<-zch,Int.ediv_ediv_of_nonneg aa]
 rw[e2,e1];have hk2:(0:Int)<2^k:=Int.pow_pos ac;obtain⟨t,ht⟩:∃t,32=k+(t+1):=⟨31-k,aa⟩;have e3:(4294967296:Int)=2^k*(2*2^t):=by
  have:(4294967296:Int)=2^32:=rfl;rw[this,ht,Int.pow_add,Int.pow_succ];grind
 have e4:x+4294967296*val (l.drop (j+1))=x+2^k*(2*(2^t*val (l.drop (j+1)))):=by rw[e3];grind
 rw[e4,Int.add_mul_ediv_left _ _ aa];omega
theorem zg6(a k:Nat)(h:a%2^(k+1)=0):a|||2^k=a+2^k:=by
 have h1:a=(a / 2^(k+1))<<<(k+1):=by
  rw[Nat.shiftLeft_eq,Nat.div_mul_cancel (Nat.dvd_of_mod_eq_zero h)]
 have h2:=Nat.shiftLeft_add_eq_or_of_lt (b:=2^k) (i:=k+1) (Nat.pow_lt_pow_right aa aa) (a / 2^(k+1));rw[<-h1]at h2;exact h2.symm
structure DivI(M N:Int)(i:Nat)(Q R:Int):Prop where
 eq:M / 2^i=Q*N+R
 r0:0<=R
 r1:R<N
 q0:0<=Q
theorem zg7(M:Int)(i:Nat):M / 2^i=2*(M / 2^(i+1))+(M / 2^i)%2:=by
 have e:M / 2^(i+1)=M / 2^i / 2:=by rw[Int.pow_succ,Int.ediv_ediv_of_nonneg (Int.le_of_lt (Int.pow_pos ac))]
 rw[e];omega
theorem DivI.low(h:DivI M N (i+1) Q R)(hlt:2*R+(M / 2^i)%2<N):DivI M N i (2*Q) (2*R+(M / 2^i)%2):=by
 have h1:=zg7 M i;have h2:=h.eq;have h3:=h.r0;have h4:=h.q0;refine⟨?_,aa,hlt,aa⟩;rw[h1,h2];grind
theorem DivI.high(h:DivI M N (i+1) Q R)(hge:N<=2*R+(M / 2^i)%2):DivI M N i (2*Q+1) (2*R+(M / 2^i)%2-N):=by
 have h1:=zg7 M i;have h2:=h.eq;have h3:=h.r0;have h4:=h.q0;have h5:=h.r1;refine⟨?_,aa,aa,aa⟩;rw[h1,h2];grind
theorem DivI.start(h0:0<=M)(hM:M<2^i)(hN:0<N):DivI M N i 0 0:=
 ⟨by rw[Int.ediv_eq_zero_of_lt h0 hM];omega,aa,hN,aa⟩
theorem DivI.done(h:DivI M N 0 Q R):Q=M / N/\R=M%N:=by
 have h1:=h.eq;rw[Int.pow_zero,Int.ediv_one]at h1;have h2:=h.r0;have h3:=h.r1;have e:M=R+N*Q:=by rw[h1];grind
 constructor
 ·rw[e,Int.add_mul_ediv_left _ _ aa,Int.ediv_eq_zero_of_lt h2 h3];omega
 ·rw[e,Int.add_mul_emod_self_left,Int.emod_eq_of_lt h2 h3]
end
end Go.Proofs.YtgoaelchibpffaaGreat

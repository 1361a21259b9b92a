import Derived.Test.YtgoaelchibpffaaGreatT18
set_option maxHeartbeats 8000000
set_option linter.unusedVariables false
set_option linter.unusedSimpArgs false
namespace Go.Proofs.YtgoaelchibpffaaGreat
variable {b:Int} {L m:List (List Int)} {x y:List Int} {vs:List Value} {q:Nat} {w w':World}
section
open La
theorem zoP(n:Nat)(F:Nat->Int):zj (n+1) F=F 0+zj n fun i=>F (i+1):=by
 induction n with
 |zero=>simp[zj]
 |succ n ih=>rw[Zx,ih,Zx];omega
theorem zcy(g:Nat->Int)(t:List Int):∀k,qv g k t=zj t.length fun i=>g (k+i)*t.getD i 0:=by
 induction t with
 |nil=>intro k;rfl
 |cons c t ih=>
  intro k;rw[qv,ih (k+1),List.length_cons,zoP];grind
theorem jP(a:Int)(n:Nat)(F:Nat->Int):(zj n fun i=>a*F i)=a*zj n F:=by
 induction n with
 |zero=>simp[zj]
 |succ n ih=>rw[Zx,ih,Zx,Int.mul_add]
theorem zaF(n:Nat)(F G:Nat->Int):(zj n fun i=>F i+G i)=zj n F+zj n G:=by
 induction n with
 |zero=>simp[zj]
 |succ n ih=>rw[Zx,ih,Zx,Zx];omega
def zE(m:List (List Int))(x y:List Int):Int:=zj m.length fun i=>x.getD i 0*zj m.length fun j=>ent m i j*y.getD j 0
theorem Qf(hn:AllLen m m.length)(x:List Int)(hx:x.length=m.length):zE m x x=zh m x:=by
 rw[zbi hn x hx];unfold zE qE Jt;rw[zcy,hx];refine zT fun i _=>?_
 rw[zcy,hx,Int.mul_comm];simp only[Nat.zero_add];rfl
def QM(m:List (List Int))(b:Int):Nat->List Int->List (List Int)
 |0,t=>(List.range (zbr m b 0 t)).map fun(j:Nat)=>(Q9 m b 0 t+(j:Int))::t
 |k+1,t=>(List.range (zbr m b (k+1) t)).flatMap fun(j:Nat)=>QM m b k ((Q9 m b (k+1) t+(j:Int))::t)
theorem zoQ(hr:RedOK m)(x:List Int)(k:Nat):∀t:List Int,k<m.length->t.length=m.length-1-k->0<=left (ent m) b (k+1) t->
  (x∈QM m b k t↔∃p:List Int,p.length=k+1/\x=p++t/\0<=left (ent m) b 0 x):=by
 induction k with
 |zero=>
  intro t hk ht h0;have hin:∀c,(Q9 m b 0 t<=c/\c<=tHi m b 0 t)↔0<=left (ent m) b 0 (c::t):=fun c=>Ju hr hk t ht h0 c
  rw[QM];simp only[List.mem_map,List.mem_range];constructor
  ·rintro⟨j,hj,rfl⟩;unfold zbr at hj;exact⟨[Q9 m b 0 t+(j:Int)],rfl,rfl,(hin _).1 ⟨aa,aa⟩⟩
  ·rintro⟨p,hp,rfl,h2⟩;obtain⟨c,rfl⟩:∃c,p=[c]:=List.length_eq_one_iff.1 hp;have h3:=(hin c).2 h2;refine⟨(c-Q9 m b 0 t).toNat,by unfold zbr;omega,?_⟩;rw[(aa:Q9 m b 0 t+(((c-Q9 m b 0 t).toNat:Nat):Int)=c)];rfl
 |succ k ih=>
  intro t hk ht h0;have hin:∀c,(Q9 m b (k+1) t<=c/\c<=tHi m b (k+1) t)↔0<=left (ent m) b (k+1) (c::t):=fun c=>Ju hr hk t ht h0 c
  rw[QM];simp only[List.mem_flatMap,List.mem_range];constructor
  ·rintro⟨j,hj,hx⟩;have hk0:0<=left (ent m) b (k+1) ((Q9 m b (k+1) t+(j:Int))::t):=kid hr t hk ht h0 (j:=j) hj;obtain⟨p,hp,rfl,h2⟩:=(ih _ aa (by simp[ht];omega) hk0).1 hx;exact⟨p++[Q9 m b (k+1) t+(j:Int)],by simp[hp],af,h2⟩
  ·rintro⟨p,hp,rfl,h2⟩;obtain⟨q,c,rfl,hq⟩:=zcc hp;have hs:=zgR hr b q 0 (c::t) (by simp[ht];omega) (by simpa using h2);rw[hq,Nat.zero_add]at hs;have hc:=(hin c).2 hs;refine⟨(c-Q9 m b (k+1) t).toNat,by unfold zbr;omega,?_⟩;grind
theorem zoR(hr:RedOK m)(hb:0<=b)(x:List Int):x∈QM m b (m.length-1) []↔x.length=m.length/\zh m x<=b:=by
 have hl:=Z2 hr.small;rw[zoQ hr x (m.length-1) [] aa af (zd3 hr hb)];constructor
 ·rintro⟨p,hp,rfl,h2⟩;have hpl:(p++[]).length=m.length:=ae
  rw[Jv (zV hr.small) b _ hpl]at h2;grind
 ·rintro⟨h1,h3⟩;refine⟨x,aa,af,?_⟩;rw[Jv (zV hr.small) b _ h1];omega
def J1(p:Int×List Int):List Int:=p.1::p.2
def Z8(p q:Int×List Int):Bool:=decide (zn (J1 p) (J1 q)<0)
theorem zoS{p q:Int×List Int}(h:J1 p=J1 q):p=q:=by
 obtain⟨a,x⟩:=p;obtain⟨b,y⟩:=q;simpa[J1] using h
theorem zoT{p q r:Int×List Int}(h1:Z8 p q=true)(h2:Z8 q r=true):Z8 p r=true:=by
 unfold Z8 at*
 rw[decide_eq_true_eq] at*
 exact JT _ _ _ h1 h2
theorem zoU{p q:Int×List Int}(h1:Z8 p q=false)(h2:Z8 q p=false):p=q:=by
 unfold Z8 at*
 rw[decide_eq_false_iff_not] at*
 rw[Qc]at h2;exact zoS (jH _ _ aa)
def jr:List (Int×List Int)->Int×List Int->Nat
 |[],_=>0
 |y::l,x=>if Z8 y x then jr l x+1 else 0
def js(l:List (Int×List Int))(x:Int×List Int):List (Int×List Int):=
 match l[jr l x]? with
 |some y=>if Z8 x y then l.take (jr l x)++x::l.drop (jr l x) else l
 |none=>l++[x]
theorem zhS:∀(l:List (Int×List Int))(x:Int×List Int),l.Pairwise (fun p q=>Z8 p q=true)->(js l x).Pairwise (fun p q=>Z8 p q=true)/\∀y,y∈js l x↔y∈l∨y=x
 |[],x,_=>by simp[js,jr]
 |y::l,x,h=>by
  by_cases hyx:Z8 y x=true
  ·have hp:(y::l)[jr (y::l) x]? =l[jr l x]? :=by simp[jr,hyx]
   have e:js (y::l) x=y::js l x:=by
    unfold js;rw[hp];simp only[jr,if_pos hyx];grind
   rw[List.pairwise_cons]at h;obtain⟨h1,h2⟩:=zhS l x h.2;rw[e,List.pairwise_cons];grind
  ·have e0:jr (y::l) x=0:=by simp[jr,hyx]
   have e:js (y::l) x=if Z8 x y then x::y::l else y::l:=by
    unfold js;grind
   rw[e];by_cases hxy:Z8 x y=true
   ·rw[if_pos hxy];refine⟨List.pairwise_cons.2 ⟨fun z hz=>?_,h⟩,fun z=>?_⟩
    ·rcases List.mem_cons.1 hz with rfl|hz
     ·exact hxy
     ·exact zoT hxy ((List.pairwise_cons.1 h).1 z hz)
    grind
   ·rw[if_neg hxy];have hxe:=zoU (p:=y) (q:=x) (by simpa using hyx) (by simpa using hxy);grind
def JE(m:List (List Int))(xs:List (List Int)):List (Int×List Int):=
 xs.foldl (fun l x=>if 0<zD x then js l (zh m x,x) else l) []
theorem zoV(m:List (List Int))(xs:List (List Int)):∀l:List (Int×List Int),l.Pairwise (fun p q=>Z8 p q=true)->
  (xs.foldl (fun l x=>if 0<zD x then js l (zh m x,x) else l) l).Pairwise (fun p q=>Z8 p q=true)/\∀y,y∈xs.foldl (fun l x=>if 0<zD x then js l (zh m x,x) else l) l↔y∈l∨∃x∈xs,0<zD x/\y=(zh m x,x):=by
 induction xs with
 |nil=>intro l h;exact⟨h,fun y=>af⟩
 |cons x xs ih=>
  intro l h;simp only[List.foldl_cons];by_cases hx:0<zD x
  ·rw[if_pos hx];obtain⟨h1,h2⟩:=zhS l (zh m x,x) h;grind
  ·rw[if_neg hx];obtain⟨h3,h4⟩:=ih _ h;refine⟨h3,fun y=>?_⟩;rw[h4];simp only[List.mem_cons];constructor
   ·rintro(h|⟨z,hz,a,b⟩)
    ·exact .inl h
    ·exact .inr ⟨z,.inr hz,a,b⟩
   grind
theorem zcz(hr:RedOK m)(hb:0<=b):VecList m b false ((JE m (QM m b (m.length-1) [])).map Prod.snd)/\JE m (QM m b (m.length-1) [])=((JE m (QM m b (m.length-1) [])).map Prod.snd).map fun x=>(zh m x,x):=by
 obtain⟨h1,h2⟩:=zoV m (QM m b (m.length-1) []) [] List.Pairwise.nil;have hm:∀y,y∈JE m (QM m b (m.length-1) [])↔∃x,(x.length=m.length/\0<zD x/\zh m x<=b)/\y=(zh m x,x):=fun y=>by
  unfold JE;rw[h2];simp only[zoR hr hb];grind
 have he:∀y∈JE m (QM m b (m.length-1) []),y=(zh m y.2,y.2):=fun y hy=>by grind
 refine⟨⟨?_,fun x=>?_⟩,?_⟩
 ·rw[List.pairwise_map];refine List.Pairwise.imp_of_mem ?_ h1;intro p q hp hq h;unfold Z8 at h;rw[decide_eq_true_eq,he p hp,he q hq]at h;exact h
 ·rw[List.mem_map];constructor
  ·grind
  ·rintro⟨a1,a2,a3,-⟩;exact⟨(zh m x,x),(hm _).2 ⟨x,⟨a1,a2,a3⟩,rfl⟩,rfl⟩
 ·rw[List.map_map];conv=>lhs;rw[<-List.map_id (JE m (QM m b (m.length-1) []))]
  exact List.map_congr_left fun y hy=>he y hy
theorem zoW(hr:RedOK m)(t:List Int):∀k,k+t.length=m.length->qE (ent m) k t=0->∀x∈t,x=0:=by
 induction t with
 |nil=>intro k _ _ x hx;cases hx
 |cons c t ih=>
  intro k hk h0;simp only[List.length_cons]at hk;have hs:Sym (zf (ent m)):=QX (zV hr.small) (fun i j hi hj=>((of_decide_eq_true hr.small).2.2.2 i hi j hj).1);have h1:=zdU hs (hr.pos.le (aa:k+1<=m.length)) c t;rw[h0,Int.mul_zero]at h1;have p0:=ZV hr.pos (aa:k<=m.length);have p1:=ZV hr.pos (aa:k+1<=m.length);have q1:=zgV hr t (k+1) aa;have q2:=Int.mul_nonneg (Int.le_of_lt p0) q1
  have q3:=zdV (lE (ent m) k (c::t));have e1:zF (ent m) k*qE (ent m) (k+1) t=0:=aa
  have e2:lE (ent m) k (c::t)*lE (ent m) k (c::t)=0:=aa
  have e3:qE (ent m) (k+1) t=0:=by
   rcases Int.mul_eq_zero.1 e1 with h|h
   ·omega
   ·exact h
  have ht:=ih (k+1) aa e3;have e4:lE (ent m) k (c::t)=0:=by
   rcases Int.mul_eq_zero.1 e2 with h|h<;>exact h
  have e5:lE (ent m) k (c::t)=E (ent m) k k k*c:=by
   unfold lE;rw[qv,zgS _ _ ht,Int.add_zero]
  rw[e5]at e4;have p2:0<E (ent m) k k k:=p1;have hc:c=0:=by
   rcases Int.mul_eq_zero.1 e4 with h|h
   ·omega
   ·exact h
  intro x hx;rcases List.mem_cons.1 hx with rfl|hx
  ·exact hc
  ·exact ht x hx
theorem zoX(h:∀y∈x,y=0):zD x=0:=by
 induction x with
 |nil=>rfl
 |cons a x ih=>
  have ha:=h a af;simp only[zD,ha,if_true];exact ih (fun y hy=>h y (by simp[hy]))
theorem zem(hr:RedOK m)(hx:x.length=m.length)(h:zD x≠0):1<=zh m x:=by
 have h0:=Jw hr x hx;rcases Int.lt_or_le (zh m x) 1 with h1|h1
 ·have e:zh m x=0:=aa
  rw[zbi (zV hr.small) x hx]at e;exact absurd (zoX (zoW hr x 0 aa e)) h
 ·exact h1
theorem jQ(hr:RedOK m)(hb:0<=b){e:Bool}(h:VecList m b e L):L.length=(zB m b e).length:=by
 have hp:L.Perm ((zB m b e).map zJ):=(List.perm_ext_iff_of_nodup h.nodup (zgX hr hb e)).2 fun x=>by rw[h.mem,zoO hr hb]
 simpa using hp.length_eq
theorem zoY(hr:RedOK m)(hb:0<=b)(hb1:b<1073741824)(h:VecList m b false L){k:Nat}(hk:L[k]? =some y):
  y.length=m.length/\(∀a∈y,-1099511627776<=a/\a<=1099511627776)/\1<=zh m y/\zh m y<=b/\zD y≠0/\zJ y=y/\(k=0->Z8 (0,[]) (zh m y,y)=true)/\(∀j z,k=j+1->L[j]? =some z->Z8 (zh m z,z) (zh m y,y)=true):=by
 obtain⟨h1,h2,h3,-⟩:=(h.mem y).1 (Zm hk);have hp:=zem hr h1 aa;have hs:=zdZ hr hb hb1 y h1 h3;refine⟨h1,fun a ha=>?_,hp,h3,aa,zhR h2,fun _=>?_,fun j z hj hz=>?_⟩
 ·exact JR.1 (zd0 hs) a ha
 ·have:zo 0 (zh m y)=-1:=qr aa;simp[Z8,J1,zn,this]
 ·subst hj;have hw:=List.pairwise_iff_getElem.1 h.sorted;obtain⟨z1,z2⟩:=Zg.1 hz;obtain⟨y1,y2⟩:=Zg.1 hk;have:=hw j (j+1) z1 y1 aa;rw[z2,y2,zdG]at this;unfold Z8 J1;exact decide_eq_true this
end
section
open Go.RowKit
open La
def stM(m:List (List Int))(k:Nat):List (List Int):=tab (fun i j=>E (ent m) k (k+i) (k+j)) (m.length-k) (m.length-k)
def StHd(w:World)(m:List (List Int))(q:Nat)(vs:List Value):Prop:=vs.length=q/\∀i,i<q->∃B c,vs[i]? =some (.slice B (m.length-i) c)/\MatV w B (stM m i)/\m.length-i<=c/\c<=9223372036854775807
theorem StHd.map(h:StHd w m q vs)(hk:∀{B:Option Addr}{M:List (List Int)},MatV w B M->MatV w' B M):StHd w' m q vs:=⟨h.1,fun i hi=>by
 obtain⟨B,c,a1,a2,a3⟩:=h.2 i hi;exact⟨B,c,a1,hk a2,a3⟩⟩
theorem StHd.snoc(h:StHd w m q vs){B:Option Addr}{c:Nat}(hM:MatV w B (stM m q))(h1:m.length-q<=c)(h2:c<=9223372036854775807):StHd w m (q+1) (vs++[.slice B (m.length-q) c]):=by
 refine⟨by simp[h.1],fun i hi=>?_⟩;rcases Zl i q with hlt|hge
 ·obtain⟨B',c',a1,a2,a3⟩:=h.2 i hlt;exact⟨B',c',by rw[List.getElem?_append_left (by rw[h.1];exact hlt)];exact a1,a2,a3⟩
 ·obtain rfl:i=q:=aa
  exact⟨B,c,by rw[List.getElem?_append_right (by rw[h.1];exact Zr),h.1,Nat.sub_self];rfl,hM,h1,h2⟩
end
section
open La
def qM(x:List Int)(s:Int)(y:List Int):List Int:=(List.range x.length).map fun i=>x.getD i 0+s*y.getD i 0
theorem j9(x:List Int)(s:Int)(y:List Int):(qM x s y).length=x.length:=by simp[qM]
theorem zaG{s:Int}{i:Nat}(hi:i<x.length):(qM x s y).getD i 0=x.getD i 0+s*y.getD i 0:=by
 simp[qM,List.getD,hi]
def zcA(m:List (List Int))(x y:List Int):Int:=zj m.length fun i=>x.getD i 0*(zj m.length fun j=>ent m i j*y.getD j 0)+y.getD i 0*(zj m.length fun j=>ent m i j*x.getD j 0)
theorem zhT(hn:AllLen m m.length)(x y:List Int)(s:Int)(hx:x.length=m.length)(hy:y.length=m.length):zh m (qM x s y)=zh m x+s*zcA m x y+s*s*zh m y:=by
 rw[<-Qf hn x hx,<-Qf hn y hy,<-Qf hn (qM x s y) (by rw[j9,hx])];unfold zE zcA;have h1:(zj m.length fun i=>(qM x s y).getD i 0*zj m.length fun j=>ent m i j*(qM x s y).getD j 0)=
   zj m.length fun i=>(x.getD i 0*(zj m.length fun j=>ent m i j*x.getD j 0))+(s*(x.getD i 0*(zj m.length fun j=>ent m i j*y.getD j 0)+y.getD i 0*(zj m.length fun j=>ent m i j*x.getD j 0))+s*s*(y.getD i 0*(zj m.length fun j=>ent m i j*y.getD j 0))):=by
  refine zT fun i hi=>?_
  have h2:(zj m.length fun j=>ent m i j*(qM x s y).getD j 0)=(zj m.length fun j=>ent m i j*x.getD j 0)+s*(zj m.length fun j=>ent m i j*y.getD j 0):=by
   rw[<-jP,<-zaF];refine zT fun j hj=>?_
   rw[zaG aa];grind
  rw[h2,zaG aa];generalize (zj m.length fun j=>ent m i j*x.getD j 0)=X;generalize (zj m.length fun j=>ent m i j*y.getD j 0)=Y;grind
 rw[h1,zaF,zaF,jP,jP];omega
end
section
open Go.RowKit
open La
def FrV(w:World)(m:List (List Int))(SB DB:Option Addr):Prop:=StV w SB ((List.range m.length).map (stM m))/\IntsV w DB (1::zt m)
theorem FrV.ext{SB DB:Option Addr}(h:FrV w m SB DB)(hx:Ext w w'):FrV w' m SB DB:=⟨h.1.ext hx,h.2.ext hx⟩
structure Bb(x:Int):Prop where
 bd:Bd 200000 x
section
variable {w1 w2 w:World} {g h:Bool} {A B:Option Addr} {n k c d:Nat} {x y:Int}
end
theorem Only.oth{T:TypeId}{g:Nat}{cs:Array Value}{fr:Nat×Nat}(h:Only g w w')(hg:w.heap[g]? =some (.cells cs T fr)):Oth T w w':=fun b cs' e fr' hn hb=>by
 rcases Nat.lt_trichotomy b g with hlt|rfl|hgt
 ·exact(h.below.block b hlt).trans hb
 ·rw[hg]at hb;injection hb with hb
  injection hb with _ he
  exact absurd he.symm hn
 ·exact(h.rest b hgt (zi hb)).trans hb
end
end Go.Proofs.YtgoaelchibpffaaGreat

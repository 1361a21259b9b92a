import Derived.Test.YtpijjipngkdhdaaGreatE10
set_option maxHeartbeats 8000000
set_option linter.unusedVariables false
set_option linter.unusedSimpArgs false
namespace Go.Proofs.YtpijjipngkdhdaaGreat
open List (mem_map mem_range length_cons mem_cons map_cons sum_cons getElem?_set_self getElem?_set_ne length_set)
variable {cs:Array Value} {exact:Bool} {M N Q R h z za:Int} {L m:List (List Int)} {l x:List Int} {b c i j k n:Nat} {g:Nat->Int} {B:Option Addr}
section
open La
theorem zc2:∀l m:List Int,zy l m=zy m l
 |[],[]=>rfl
 |[],_::_=>rfl
 |_::_,[]=>rfl
 |a::l,b::m=>by simp only[zy];rw[zc2 l m,Int.mul_comm]
theorem zfW(hn:AllLen m n)(hi:i<m.length)(x:List Int)(hx:x.length=n):zy (m.getD i []) x=Zz (ent m i) 0 x:=by
 have hl:(m.getD i []).length=n:=by
  have:m[i].length=n:=hn _ (List.getElem_mem _);simpa[List.getD,hi] using this
 exact zbu _ x 0 _ (by omega) (fun j _=>by simp[ent])
theorem JZ(hn:AllLen m m.length)(x:List Int)(hx:x.length=m.length):zi m x=qE (ent m) 0 x:=by
 unfold zi qE jl;rw[zc2];refine zbu _ x 0 _ (by simp[zN,hx]) (fun i hi=>?_);have hi':i<m.length:=by omega
 have:(zN m x).getD i 0=zy (m.getD i []) x:=by simp[zN,hi']
 rw[this,zfW hn hi' x hx,Nat.zero_add];rfl
theorem Ju(hn:AllLen m m.length)(za:Int)(x:List Int)(hx:x.length=m.length):left (ent m) za 0 x=za-zi m x:=by
 unfold left;rw[JZ hn x hx];show 1*za-_=_;omega
theorem zll(h1:1<=h)(hb:0<=za)(exact:Bool)(x:List Int):x∈qJ h za exact (zp (za / h).toNat)↔∃c:Int,x=[c]/\1<=c/\h*c*c<=za/\(exact=true->h*c*c=za):=by
 obtain⟨h2,h3⟩:=zcJ h1 hb;obtain⟨r,hr⟩:=Xz (zp (za / h).toNat);rw[<-hr]at h2 h3|-
 simp only[qJ,mem_map,List.mem_filter,mem_range];constructor
 ·rintro⟨i,⟨hi,hp⟩,rfl⟩;refine⟨(i:Int)+1,rfl,by omega,h2 _ (by omega) (by omega),fun he=>?_⟩;simpa[he] using hp
 ·rintro⟨c,rfl,c1,c2,c3⟩;have hc:c<=r:=by
   rcases Int.lt_or_le (r:Int) c with hlt|hle
   ·have e1:h*((r:Int)+1)<=h*c:=Int.mul_le_mul_of_nonneg_left (by omega) (by omega);have e2:h*((r:Int)+1)*((r:Int)+1)<=h*c*c:=Int.mul_le_mul e1 (by omega) (by omega) (Int.mul_nonneg (by omega) (by omega));omega
   ·exact hle
  refine⟨(c-1).toNat,⟨by omega,?_⟩,by congr 1;omega⟩;rw[show ((c-1).toNat:Int)+1=c by omega]
  cases exact with
  |false=>rfl
  |true=>simp[c3 rfl]
theorem jm(hr:RedOK m)(hb:0<=za)(exact:Bool)(x:List Int):x∈zP m za exact↔x.length=m.length/\Z9 x/\zi m x<=za/\(exact=true->zi m x=za):=by
 have zqi:=ZZ hr.small;have hl:=Qf hr.small;unfold zP;split
 ·rename_i h1
  have h00:=hr.pos;have hd:1<=ent m 0 0:=by
   have:=Z5 (m:=ent m) hr.pos (k:=0) (by omega);exact this
  rw[zll hd hb];have hn:∀c:Int,zi m [c]=ent m 0 0*c*c:=fun c=>by
   rw[JZ zqi [c] (by simp[h1])];simp only[qE,jl,Zz,E];grind
  constructor
  ·rintro⟨c,rfl,c1,c2,c3⟩;rw[hn];exact⟨by simp[h1],.inr ⟨by simp,by omega⟩,c2,c3⟩
  ·rintro⟨a1,a2,a3,a4⟩;obtain⟨c,rfl⟩:∃c,x=[c]:=by
    match x,a1 with
    |[c],_=>exact⟨c,rfl⟩
    |[],h=>simp at h;omega
    |_::_::_,h=>simp at h;omega
   rw[hn]at a3 a4;have:0<c:=by
    rcases a2 with h|⟨_,h⟩
    ·exact absurd h (by simp[Z9])
    ·exact h
   exact⟨c,rfl,by omega,a3,a4⟩
 ·have e:vD (zj m m.length) m.length*za=left (ent m) za (m.length-1+1) []:=by
   rw[show m.length-1+1=m.length by omega,zaJ,Z6 Zr]
  rw[e,zbv hr hb exact x (m.length-1) true [] (by omega) (by simp) ?_ (by simp)]
  ·constructor
   ·rintro⟨p,rfl,hp,a1,a2,a3⟩;simp only[List.append_nil]at a1 a2|-
    have hpl:p.length=m.length:=by omega
    rw[Ju zqi za p hpl]at a1 a2;exact⟨hpl,a3 rfl,by omega,fun h=>by have:=a2 h;omega⟩
   ·rintro⟨a1,a2,a3,a4⟩;rw[Ju zqi za x a1];exact⟨x,by simp,by omega,by omega,fun h=>by have:=a4 h;omega,fun _=>a2⟩
  ·rw[<-e];have:=Z6 (m:=m) (k:=m.length) Zr;rw[this];exact Int.mul_nonneg (Int.le_of_lt (Zy hr.pos Zr)) hb
theorem jn(hr:RedOK m)(hb:0<=za)(hb1:za<1073741824)(t:List Int):∀k,k<m.length->t.length=m.length-1-k->0<=left (ent m) za (k+1) t->LevOK (zj m m.length) m.length za k (left (ent m) za (k+1) t) t:=by
 have zqs:=QA (ZZ hr.small) (fun i j hi hj=>((of_decide_eq_true hr.small).2.2.2 i hi j hj).1);induction t with
 |nil=>
  intro k hk ht h0;have e:k+1=m.length:=by simp at ht;omega
  rw[e]at h0|-
  refine⟨hk,h0,?_,ht,by simp[zO]⟩;rw[zaJ,e,Z6 Zr];exact Int.le_refl _
 |cons c t ih=>
  intro k hk ht h0;simp only[length_cons]at ht;have h1:=zcZ zqs (hr.pos.le (by omega:k+1+1<=m.length)) za c t h0;have h2:=ih (k+1) (by omega) (by omega) h1;have h3:=(Jt hr (by omega:k+1<m.length) t (by omega) h1 c).2 h0;have h4:=LevOK.next (hr.num hb hb1) h2 h3.1 h3.2;rwa [Qn hr (by omega) za t (by omega)]at h4
theorem zfX(hr:RedOK m)(t:List Int):∀k,k+t.length<=m.length->0<=qE (ent m) k t:=by
 have zqs:=QA (ZZ hr.small) (fun i j hi hj=>((of_decide_eq_true hr.small).2.2.2 i hi j hj).1);induction t with
 |nil=>intro k _;exact Int.le_refl _
 |cons c t ih=>
  intro k hk;simp only[length_cons]at hk;have h1:=ih (k+1) (by omega);have h2:=zbt zqs (hr.pos.le (by omega:k+1<=m.length)) c t;have h3:=Zy hr.pos (by omega:k<=m.length);have h4:=Zy hr.pos (by omega:k+1<=m.length);have h5:=Int.mul_nonneg (Int.le_of_lt h3) h1;have h6:=zcX (lE (ent m) k (c::t));rcases Int.lt_or_le (qE (ent m) k (c::t)) 0 with h7|h7
  ·have:=Int.mul_neg_of_pos_of_neg h4 h7;omega
  ·exact h7
theorem J0(hr:RedOK m)(x:List Int)(hx:x.length=m.length):0<=zi m x:=by
 rw[JZ (ZZ hr.small) x hx];exact zfX hr x 0 (by omega)
theorem zlm(hr:RedOK m)(hb:0<=za)(hb1:za<1073741824)(x:List Int)(hx:x.length=m.length)(hn:zi m x<=za):zO x<=1099511627776:=by
 have zqi:=ZZ hr.small;have hl:=Qf hr.small;have zqs:=QA (ZZ hr.small) (fun i j hi hj=>((of_decide_eq_true hr.small).2.2.2 i hi j hj).1);have h0:0<=left (ent m) za 0 x:=by rw[Ju zqi za x hx];omega
 cases x with
 |nil=>simp[zO]
 |cons c t=>
  simp only[length_cons]at hx;have h1:=zcZ zqs (hr.pos.le (by omega:0+1<=m.length)) za c t h0;have h2:=jn hr hb hb1 t 0 (by omega) (by omega) h1;have h3:=(Jt hr (by omega:0<m.length) t (by omega) h1 c).2 h0;have hN:=hr.num hb hb1;have h4:=Jn hN h2;have h5:=jD hN h2;have h6:=jC hN h2;simp only[zO];omega
theorem zln(h:zO x<=1099511627776):Qj x=true:=by
 unfold Qj;rw[List.all_eq_true];intro y hy;obtain⟨i,hi⟩:=List.getElem?_of_mem hy;have:=JV x i y hi;simp only[Bool.and_eq_true,decide_eq_true_eq];omega
theorem zc3(h:zZ x=0):∀y∈x,y=0:=by
 induction x with
 |nil=>simp
 |cons a x ih=>
  simp only[zZ]at h;split at h
  ·rename_i ha
   intro y hy;rcases mem_cons.1 hy with rfl|hy
   ·exact ha
   ·exact ih h y hy
  ·omega
theorem Jv(h:Z9 x):¬∀y∈x,y=0:=by
 induction x with
 |nil=>exact absurd h (by simp[Z9])
 |cons a x ih=>
  intro hz;rcases h with h|⟨_,h⟩
  ·exact ih h (fun y hy=>hz y (by simp[hy]))
  ·have:=hz a (by simp);omega
theorem zc4(h:Z9 x):¬Z9 (x.map fun c=>-c):=by
 induction x with
 |nil=>exact absurd h (by simp[Z9])
 |cons a x ih=>
  rintro(h2|⟨h2,h3⟩)
  ·rcases h with h|⟨h,_⟩
   ·exact ih h h2
   ·exact Jv h2 (fun y hy=>by
     obtain⟨z,hz,rfl⟩:=mem_map.1 hy;have:=h z hz;omega)
  ·rcases h with h|⟨_,h⟩
   ·exact Jv h (fun y hy=>by
     have:=h2 (-y) (mem_map.2 ⟨y,hy,rfl⟩);omega)
   ·have h4:0< -a:=h3;omega
theorem zc5(h:¬∀y∈x,y=0):Z9 x∨Z9 (x.map fun c=>-c):=by
 induction x with
 |nil=>exact absurd (by simp) h
 |cons a x ih=>
  by_cases hx:∀y∈x,y=0
  ·have ha:a≠0:=fun ha=>h (fun y hy=>by
    rcases mem_cons.1 hy with rfl|hy
    ·exact ha
    ·exact hx y hy)
   rcases(by omega:0<a∨0< -a) with h1|h1
   ·exact .inl (.inr ⟨hx,h1⟩)
   ·refine .inr (.inr ⟨fun y hy=>?_,h1⟩);obtain⟨z,hz,rfl⟩:=mem_map.1 hy;have:=hx z hz;omega
  ·rcases ih hx with h1|h1
   ·exact .inl (.inl h1)
   ·exact .inr (.inl h1)
theorem Jw(x:List Int):(x.map fun c=>-c).map (fun c=>-c)=x:=by
 induction x with
 |nil=>rfl
 |cons a x ih=>simp only[map_cons,ih,Int.neg_neg]
theorem zlo{y:List Int}(hx:Z9 x)(hy:Z9 y)(h:zW x=zW y):x=y:=by
 unfold zW at h;split at h<;>split at h
 ·have:=congrArg (List.map fun c=>-c) h;rwa [Jw,Jw]at this
 ·rw[<-h]at hy;exact absurd hy (zc4 hx)
 ·rw[h]at hx;exact absurd hx (zc4 hy)
 ·exact h
theorem zc6(x:List Int):zZ (x.map fun c=>-c)=-zZ x:=by
 induction x with
 |nil=>rfl
 |cons a x ih=>
  simp only[map_cons,zZ,ih];by_cases h:a=0
  ·simp[h]
  ·rw[if_neg h,if_neg (by omega)]
theorem zfY(x:List Int)(h:zZ x≠0):0<zZ (zW x):=by
 unfold zW;split
 ·rw[zc6];omega
 ·omega
theorem zfZ(hr:RedOK m)(hb:0<=za)(exact:Bool):(zP m za exact).Nodup:=by
 have hl:=Qf hr.small;unfold zP;split
 ·unfold qJ;unfold List.Nodup;rw[List.pairwise_map];refine List.Pairwise.imp ?_ (List.Pairwise.filter _ List.nodup_range);intro a b hab e;injection e with e1
  omega
 ·have e:vD (zj m m.length) m.length*za=left (ent m) za (m.length-1+1) []:=by
   rw[show m.length-1+1=m.length by omega,zaJ,Z6 Zr]
  rw[e];refine zfV hr hb exact (m.length-1) true [] (by omega) (by simp) ?_ (by simp);rw[<-e,Z6 Zr];exact Int.mul_nonneg (Int.le_of_lt (Zy hr.pos Zr)) hb
theorem zf0(hr:RedOK m)(hb:0<=za)(exact:Bool):((zP m za exact).map zW).Nodup:=by
 unfold List.Nodup;rw[List.pairwise_map];refine List.Pairwise.imp_of_mem ?_ (zfZ hr hb exact);intro a b ha hb' hab e;exact hab (zlo ((jm hr hb exact a).1 ha).2.1 ((jm hr hb exact b).1 hb').2.1 e)
theorem zlp(hr:RedOK m)(hb:0<=za)(hb1:za<1073741824)(exact:Bool)(x:List Int)(hx:x∈zP m za exact):VecOK m x:=by
 obtain⟨h1,h2,h3,_⟩:=(jm hr hb exact x).1 hx;have h4:=zln (zlm hr hb hb1 x h1 h3);refine⟨by simp[QL,h1,h4],?_,?_⟩
 ·have:=J0 hr x h1;simp only[Qz,decide_eq_true_eq];omega
 ·simp only[ji,h4,Bool.true_and,Bool.not_eq_true',decide_eq_false_iff_not];intro e;exact Jv h2 (zc3 e)
theorem J1(h:Zt m=true):RedM m:=by
 have hr:=qT h;refine⟨h,ZZ hr.small,fun r hr' x hx=>?_,(Qf hr.small).2⟩;obtain⟨i,j,hi,hj,rfl⟩:=zfH (ZZ hr.small) hr' hx;have:=((of_decide_eq_true hr.small).2.2.2 i hi j hj).2;omega
structure VecList(m:List (List Int))(za:Int)(exact:Bool)(L:List (List Int)):Prop where
 sorted:L.Pairwise (fun x y=>qo (zi m x) (zi m y) x y<0)
 mem:∀x,x∈L↔x.length=m.length/\0<zZ x/\zi m x<=za/\(exact=true->zi m x=za)
theorem zlq(hr:RedOK m)(hb:0<=za)(hp:L.Perm ((zP m za exact).map zW))(hw:L.Pairwise (fun x y=>qo (zi m x) (zi m y) x y<0)):VecList m za exact L:=by
 refine⟨hw,fun x=>?_⟩;rw[hp.mem_iff,mem_map];constructor
 ·rintro⟨y,hy,rfl⟩;obtain⟨h1,h2,h3,h4⟩:=(jm hr hb exact y).1 hy;rw[zcI,zaG];exact⟨h1,zfY y (fun e=>Jv h2 (zc3 e)),h3,h4⟩
 ·rintro⟨h1,h2,h3,h4⟩;have hne:¬∀y∈x,y=0:=fun hz=>by
   have:zZ x=0:=by
    clear h1 h2 h3 h4;induction x with
    |nil=>rfl
    |cons a x ih=>
     have ha:=hz a (by simp);simp only[zZ,ha,if_true];exact ih (fun y hy=>hz y (by simp[hy]))
   omega
  rcases zc5 hne with h5|h5
  ·refine⟨x,(jm hr hb exact x).2 ⟨h1,h5,h3,h4⟩,?_⟩;unfold zW;rw[if_neg (by omega)]
  ·refine⟨x.map fun c=>-c,(jm hr hb exact _).2 ⟨by simpa using h1,h5,by rw[Jr];exact h3,by rw[Jr];exact h4⟩,?_⟩;unfold zW;rw[zc6,if_pos (by omega),Jw]
theorem zlr(m:List (List Int))(x y:List Int)(h:qo (zi m x) (zi m y) x y<0):¬qo (zi m y) (zi m x) y x<0:=by
 rw[zfo]at h|-
 rw[Jq];omega
theorem VecList.nodup(h:VecList m za exact L):L.Nodup:=by
 refine List.Pairwise.imp ?_ h.sorted;intro a b hab e;subst e;exact zlr m a a hab hab
def zC:List (Int×Int)->Int
 |[]=>0
 |p::ys=>p.2+zC ys
def zQ:List (Int×Int)->Nat->Int
 |[],_=>0
 |p::ys,i=>(if (p.1-1).toNat=i then p.2 else 0)+zQ ys i
theorem zc7(a b:List (Int×Int)):zC (a++b)=zC a+zC b:=by
 induction a with
 |nil=>simp[zC]
 |cons p a ih=>simp only[List.cons_append,zC,ih];omega
theorem zf1(a b:List (Int×Int))(i:Nat):zQ (a++b) i=zQ a i+zQ b i:=by
 induction a with
 |nil=>simp[zQ]
 |cons p a ih=>simp only[List.cons_append,zQ,ih];omega
theorem zls(F:Nat->List (Int×Int))(l:List Nat):zC (l.flatMap F)=(l.map fun j=>zC (F j)).sum:=by
 induction l with
 |nil=>rfl
 |cons j l ih=>simp only[List.flatMap_cons,zc7,ih,map_cons,sum_cons]
theorem zf2(F:Nat->List (Int×Int))(i:Nat)(l:List Nat):zQ (l.flatMap F) i=(l.map fun j=>zQ (F j) i).sum:=by
 induction l with
 |nil=>rfl
 |cons j l ih=>simp only[List.flatMap_cons,zf1,ih,map_cons,sum_cons]
theorem zlt{l:List Nat}{B:Int}(h:∀j∈l,g j<=B):(l.map g).sum<=(l.length:Int)*B:=by
 induction l with
 |nil=>simp
 |cons j l ih=>
  have h1:=ih (fun x hx=>h x (by simp[hx]));have h2:=h j (by simp);simp only[map_cons,sum_cons,length_cons,Int.natCast_add,Int.add_mul];omega
theorem zf3{l:List Nat}(h:∀j∈l,0<=g j):0<=(l.map g).sum:=by
 induction l with
 |nil=>simp
 |cons j l ih=>
  have h1:=ih (fun x hx=>h x (by simp[hx]));have h2:=h j (by simp);simp only[map_cons,sum_cons];omega
theorem zlu{l:List Nat}(h:∀j∈l,0<=g j){a:Nat}(ha:a∈l):g a<=(l.map g).sum:=by
 induction l with
 |nil=>simp at ha
 |cons j l ih=>
  have h0:=zf3 (fun x hx=>h x (List.mem_cons_of_mem j hx));have h2:=h j (by simp);simp only[map_cons,sum_cons];rcases mem_cons.1 ha with rfl|ha
  ·omega
  ·have:=ih (fun x hx=>h x (by simp[hx])) ha;omega
theorem zlv(n:Nat)(ys:List (Int×Int)):∀(left:Int)(st:List Int),(∀p∈ys,0<=p.2/\1<=p.1/\p.1<=n)->0<=left->st.length=n->
  Qy ys left st=if zC ys<=left then some (left-zC ys,(List.range n).map fun i=>st.getD i 0+zQ ys i) else none:=by
 induction ys with
 |nil=>
  intro left st _ h0 hl;rw[if_pos (show zC []<=left from h0)];have e1:left-zC []=left:=by simp only[zC];omega
  have e2:(List.range n).map (fun i=>st.getD i 0+zQ [] i)=st:=by
   refine List.ext_getElem (by simp[hl]) fun i h1 h2=>?_
   simp[List.getD,h2,zQ]
  rw[e1,e2];rfl
 |cons p ys ih=>
  obtain⟨len,cnt⟩:=p;intro left st hp h0 hl;have hp0:=hp (len,cnt) (by simp);simp only at hp0;have zrx:0<=zC ys:=by
   have:∀l:List (Int×Int),(∀p∈l,0<=p.2)->0<=zC l:=fun l hh=>by
    induction l with
    |nil=>simp[zC]
    |cons q l ih2=>have a:=ih2 (fun p hp=>hh p (by simp[hp]));have b:=hh q (by simp);simp only[zC];omega
   exact this ys (fun p hp'=>(hp p (by simp[hp'])).1)
  have htc:zC ((len,cnt)::ys)=cnt+zC ys:=rfl;simp only[Qy];split
  ·rw[if_neg (by omega)]
  ·rw[ih (left-cnt) _ (fun p hp'=>hp p (by simp[hp'])) (by omega) (by simpa using hl)];by_cases h:zC ys<=left-cnt
   ·rw[if_pos h,if_pos (by omega)];have e1:left-cnt-zC ys=left-zC ((len,cnt)::ys):=by omega
    rw[e1];congr 2
    ·refine List.map_congr_left fun i hi=>?_
     have hi':i<n:=by simpa using hi
     simp only[zQ,List.getD_eq_getElem?_getD,List.getElem?_set];by_cases e:(len-1).toNat=i
     ·rw[if_pos e,if_pos (by omega)];simp[e];omega
     ·rw[if_neg e,if_neg e];omega
   ·rw[if_neg h,if_neg (by omega)]
section
variable {m:List (List Int)} {za:Int}
theorem zbw(hr:RedOK m)(hb:0<=za):0<=left (ent m) za (m.length-1+1) []:=by
 have hl:=Qf hr.small;rw[show m.length-1+1=m.length by omega,zaJ];exact Int.mul_nonneg (Int.le_of_lt (Zy hr.pos Zr)) hb
theorem zf4(hr:RedOK m):vD (zj m m.length) m.length*za=left (ent m) za (m.length-1+1) []:=by
 have hl:=Qf hr.small;rw[show m.length-1+1=m.length by omega,zaJ,Z6 Zr]
theorem J2(hr:RedOK m)(t:List Int)(hk:k<m.length)(ht:t.length=m.length-1-k)(h0:0<=left (ent m) za (k+1) t)(hj:j<(zS (zj m m.length) (zo m m.length) k (left (ent m) za (k+1) t) t).toNat):
  0<=left (ent m) za k ((zK (zj m m.length) (zo m m.length) k (left (ent m) za (k+1) t) t+(j:Int))::t):=by
 refine(Jt hr hk t ht h0 _).1 ?_;unfold zS at hj;omega
theorem zc8(hr:RedOK m)(hb:0<=za)(hb1:za<1073741824)(k:Nat):∀t:List Int,k<m.length->t.length=m.length-1-k->0<=left (ent m) za (k+1) t->
  ∀p∈Zo (zj m m.length) (zo m m.length) m.length k (left (ent m) za (k+1) t) t,0<=p.2/\1<=p.1/\p.1<=(m.length:Int):=by
 induction k with
 |zero=>
  intro t hk ht h0 p hp;simp only[Zo,List.mem_singleton]at hp;subst hp;have:=Jo (hr.num hb hb1) (jn hr hb hb1 t 0 hk ht h0);simp only;omega
 |succ k ih=>
  intro t hk ht h0 p hp;simp only[Zo,mem_cons,List.mem_flatMap,mem_range]at hp;rcases hp with rfl|⟨j,hj,hp⟩
  ·have:=Jo (hr.num hb hb1) (jn hr hb hb1 t (k+1) hk ht h0);simp only;omega
  ·have hk0:=J2 hr t hk ht h0 hj;rw[Qn hr hk za t ht]at hp;exact ih _ (by omega) (by simp[ht];omega) hk0 p hp
theorem zf5{ys:List (Int×Int)}(h:∀p∈ys,0<=p.2)(i:Nat):0<=zQ ys i:=by
 induction ys with
 |nil=>simp[zQ]
 |cons p ys ih=>
  have a:=ih (fun q hq=>h q (by simp[hq]));have b:=h p (by simp);simp only[zQ];split<;>omega
theorem zlw(hr:RedOK m)(hb:0<=za)(hb1:za<1073741824)(k:Nat):∀t:List Int,k<m.length->t.length=m.length-1-k->0<=left (ent m) za (k+1) t->
  zQ (Zo (zj m m.length) (zo m m.length) m.length k (left (ent m) za (k+1) t) t) (m.length-1)=((Zf (zj m m.length) (zo m m.length) false k (left (ent m) za (k+1) t) false t).length:Int):=by
 induction k with
 |zero=>
  intro t hk ht h0;have:=Jo (hr.num hb hb1) (jn hr hb hb1 t 0 hk ht h0);simp only[Zo,zQ,Zf,QP,Bool.false_and,Bool.not_false,Bool.and_self,if_true,List.length_flatMap];rw[if_pos (by omega)];have e:QO (zj m m.length) (zo m m.length) 0 (left (ent m) za (0+1) t) false t=(zS (zj m m.length) (zo m m.length) 0 (left (ent m) za (0+1) t) t).toNat:=by simp[QO,ZK,zS]
  rw[e];simp only[length_cons,List.length_nil];rw[List.map_const',List.sum_replicate_nat];simp only[Nat.zero_add]at this;simp;omega
 |succ k ih=>
  intro t hk ht h0;have e:QO (zj m m.length) (zo m m.length) (k+1) (left (ent m) za (k+1+1) t) false t=(zS (zj m m.length) (zo m m.length) (k+1) (left (ent m) za (k+1+1) t) t).toNat:=by simp[QO,ZK,zS]
  have e2:ZK (zj m m.length) (zo m m.length) (k+1) (left (ent m) za (k+1+1) t) false t=zK (zj m m.length) (zo m m.length) (k+1) (left (ent m) za (k+1+1) t) t:=by simp[ZK]
  simp only[Zo,zQ,Zf,Bool.false_and];rw[if_neg (by omega),zf2,e,e2];have key:∀l:List Nat,(∀j∈l,j<(zS (zj m m.length) (zo m m.length) (k+1) (left (ent m) za (k+1+1) t) t).toNat)->
    (l.map fun j:Nat=>zQ (Zo (zj m m.length) (zo m m.length) m.length k (ZY (zj m m.length) (zo m m.length) (k+1) (left (ent m) za (k+1+1) t) t (zK (zj m m.length) (zo m m.length) (k+1) (left (ent m) za (k+1+1) t) t+(j:Int))) ((zK (zj m m.length) (zo m m.length) (k+1) (left (ent m) za (k+1+1) t) t+(j:Int))::t)) (m.length-1)).sum=
    ((l.flatMap fun j:Nat=>Zf (zj m m.length) (zo m m.length) false k (ZY (zj m m.length) (zo m m.length) (k+1) (left (ent m) za (k+1+1) t) t (zK (zj m m.length) (zo m m.length) (k+1) (left (ent m) za (k+1+1) t) t+(j:Int))) false ((zK (zj m m.length) (zo m m.length) (k+1) (left (ent m) za (k+1+1) t) t+(j:Int))::t)).length:Int):=by
   intro l;induction l with
   |nil=>intro _;rfl
   |cons j l ihl=>
    intro hl;have hk0:=J2 hr t hk ht h0 (hl j (by simp));simp only[map_cons,sum_cons,List.flatMap_cons,List.length_append,Int.natCast_add];rw[ihl (fun x hx=>hl x (by simp[hx])),Qn hr hk za t ht,ih _ (by omega) (by simp[ht];omega) hk0]
  rw[key _ (fun j hj=>by simpa using hj)];omega
theorem zlx(hr:RedOK m)(hb:0<=za)(hb1:za<1073741824)(k:Nat):∀t:List Int,k<m.length->t.length=m.length-1-k->(∀x∈t,x=0)->∀i,m.length-1-k<=i->i<m.length->
  1<=zQ (Zo (zj m m.length) (zo m m.length) m.length k (left (ent m) za (k+1) t) t) i:=by
 have zqS:∀(k:Nat)(t:List Int),k<m.length->t.length=m.length-1-k->(∀x∈t,x=0)->zK (zj m m.length) (zo m m.length) k (left (ent m) za (k+1) t) t<=0/\0<=ZN (zj m m.length) (zo m m.length) k (left (ent m) za (k+1) t) t:=fun k t hk ht hz=>
  (Jt hr hk t ht (zaK hr hb (by omega) t hz) 0).2 (zaK hr hb (by omega) (0::t) (fun x hx=>by
   rcases mem_cons.1 hx with rfl|hx
   ·rfl
   ·exact hz x hx))
 induction k with
 |zero=>
  intro t hk ht hz i h1 h2;have:=zqS 0 t hk ht hz;simp only[Zo,zQ];rw[if_pos (by omega)];unfold zS;omega
 |succ k ih=>
  intro t hk ht hz i h1 h2;have h0:=zaK hr hb (by omega:k+1+1<=m.length) t hz;have hc:=zqS (k+1) t hk ht hz;have hok:=zc8 hr hb hb1 (k+1) t hk ht h0;simp only[Zo,zQ]at hok|-
  rw[zf2];have hnn:∀j∈List.range (zS (zj m m.length) (zo m m.length) (k+1) (left (ent m) za (k+1+1) t) t).toNat,0<=zQ (Zo (zj m m.length) (zo m m.length) m.length k (ZY (zj m m.length) (zo m m.length) (k+1) (left (ent m) za (k+1+1) t) t (zK (zj m m.length) (zo m m.length) (k+1) (left (ent m) za (k+1+1) t) t+(j:Int))) ((zK (zj m m.length) (zo m m.length) (k+1) (left (ent m) za (k+1+1) t) t+(j:Int))::t)) i:=fun j hj=>
   zf5 (fun p hp=>(hok p (List.mem_cons_of_mem _ (List.mem_flatMap.2 ⟨j,hj,hp⟩))).1) i
  by_cases e:i=m.length-1-(k+1)
  ·rw[if_pos (by omega)];have:=zf3 hnn;unfold zS at this|-
   omega
  ·rw[if_neg (by omega)];obtain⟨j,hj⟩:∃j:Nat,zK (zj m m.length) (zo m m.length) (k+1) (left (ent m) za (k+1+1) t) t+(j:Int)=0:=⟨(-zK (zj m m.length) (zo m m.length) (k+1) (left (ent m) za (k+1+1) t) t).toNat,by omega⟩;have h3:=zlu hnn (a:=j) (by simp only[mem_range];unfold zS;omega);rw[hj,Qn hr hk za t ht]at h3;have h4:=ih (0::t) (by omega) (by simp[ht];omega) (fun x hx=>by
    rcases mem_cons.1 hx with rfl|hx
    ·rfl
    ·exact hz x hx) i (by omega) h2
   omega
theorem zly(hr:RedOK m)(k:Nat):k<m.length->zu (ent m) k<=2^k*zu (ent m) (k+1):=by
 induction k with
 |zero=>
  intro hk;have:=Zy hr.pos (by omega:0+1<=m.length);show (1:Int)<=1*zu (ent m) (0+1);omega
 |succ k ih=>
  intro hk;have h1:=ih (by omega);have hL:=hr.lov k hk;have hs:=(of_decide_eq_true (hr.short k hk)).2.2 1 (by rw[ZJ];omega) (by omega);have e1:ent (zm m k).2 1 0=E (ent m) k (k+1) k:=ZO (i:=1) (j:=0) (by omega) (by omega);have e2:ent (zm m k).2 0 0=E (ent m) k k k:=ZO (i:=0) (j:=0) (by omega) (by omega);rw[e1,e2]at hs;have p0:=Zy hr.pos (by omega:k<=m.length);have p1:0<E (ent m) k k k:=Zy hr.pos (by omega:k+1<=m.length)
  have p2:0<E (ent m) (k+1) (k+1) (k+1):=Zy hr.pos (by omega:k+1+1<=m.length);have h1':zu (ent m) k<=2^k*E (ent m) k k k:=h1;show E (ent m) k k k<=2^(k+1)*E (ent m) (k+1) (k+1) (k+1);obtain⟨x,hx⟩:=Yz (E (ent m) k k k);obtain⟨y,hy⟩:=Yz (E (ent m) k (k+1) k);obtain⟨u,hu⟩:=Yz (zu (ent m) k);obtain⟨v,hv⟩:=Yz (E (ent m) (k+1) (k+1) (k+1));rw[hx,hy,hu,hv]at hL;rw[hx,hy]at hs
  rw[hx]at p1 h1'|-
  rw[hu]at p0 h1';rw[hv]at p2|-
  have q:=Int.mul_nonneg (show 0<=x-2*y by omega) (show 0<=x+2*y by omega);have q2:(x-2*y)*(x+2*y)=x*x-4*(y*y):=by grind
  rw[q2]at q;have q3:x*x<=2*(u*v):=by grind
  have q4:u*v<=2^k*x*v:=Int.mul_le_mul_of_nonneg_right h1' (by omega);have q5:x*x<=x*(2^(k+1)*v):=by
   have:x*(2^(k+1)*v)=2*(2^k*x*v):=by rw[Int.pow_succ];grind
   omega
  exact Int.le_of_mul_le_mul_left q5 p1
theorem zlz(hr:RedOK m)(hb:0<=za)(hb1:za<1073741824)(t:List Int)(hk:k<m.length)(ht:t.length=m.length-1-k)(h0:0<=left (ent m) za (k+1) t){c:Int}(hc:1<=c)(h:c<=zS (zj m m.length) (zo m m.length) k (left (ent m) za (k+1) t) t):(c-1)*(c-1)<=4*(2^k*za):=by
 have hN:=hr.num hb hb1;have zrw:=jn hr hb hb1 t k hk ht h0;obtain⟨r0,_,r2⟩:=jC hN zrw;have r1:=zrw.r1;have hd:=Zy hr.pos (by omega:k+1<=m.length);have hd0:=Zy hr.pos (by omega:k<=m.length);unfold zS ZN zK at h;unfold Zx at r2;rw[Z6 (by omega)]at h r1 r2;obtain⟨d,hd'⟩:∃d,d=zu (ent m) (k+1):=⟨_,rfl⟩;obtain⟨e,he⟩:=Xz (zu (ent m) k);obtain⟨r,hr'⟩:∃r,r=vR (zj m m.length) k (left (ent m) za (k+1) t):=⟨_,rfl⟩
 obtain⟨s,hs⟩:=Xz (qm (zo m m.length) k t);obtain⟨R,hR⟩:=Xz (left (ent m) za (k+1) t);have hh:=zly hr k hk;rw[<-hd',<-he]at hh;rw[<-hd']at hd h r1;rw[<-he]at hd0 r2;rw[<-hR]at r0 r1 r2 h0 hr';rw[<-hR,<-hr',<-hs]at h;rw[<-hr']at r0 r2;have a1:=Int.mul_ediv_self_le (x:=r+s) (k:=d) (by omega);have a2:=Int.mul_ediv_self_le (x:=r-s) (k:=d) (by omega);-- d (c - 1) <= 2 r
 have b1:d*(c-1)<=2*r:=by
  have:d*(c-1)<=d*((r+s) / d+(r-s) / d):=Int.mul_le_mul_of_nonneg_left (by omega) (by omega);rw[Int.mul_add]at this;omega
 have b0:0<=d*(c-1):=Int.mul_nonneg (by omega) (by omega);have b2:d*(c-1)*(d*(c-1))<=2*r*(2*r):=Int.mul_le_mul b1 b1 b0 (by omega);have b3:e*R<=e*(d*za):=Int.mul_le_mul_of_nonneg_left r1 (by omega);have b4:e*(d*za)<=2^k*d*(d*za):=Int.mul_le_mul_of_nonneg_right hh (Int.mul_nonneg (by omega) hb);have b5:(d*d)*((c-1)*(c-1))<=(d*d)*(4*(2^k*za)):=by
  have c1:d*(c-1)*(d*(c-1))=(d*d)*((c-1)*(c-1)):=by grind
  have c2:2^k*d*(d*za)=(d*d)*(2^k*za):=by grind
  have c3:2*r*(2*r)=4*(r*r):=by grind
  rw[c1,c3]at b2;rw[c2]at b4;have c4:(d*d)*(4*(2^k*za))=4*((d*d)*(2^k*za)):=by grind
  omega
 exact Int.le_of_mul_le_mul_left b5 (Int.mul_pos hd hd)
def Qo(b:Nat):Nat->Nat
 |0=>zp (4*b)+1
 |k+1=>(zp (4*(2^(k+1)*b))+1)*(1+Qo b k)
theorem zf6(hr:RedOK m)(hb1:(b:Int)<1073741824)(t:List Int)(hk:k<m.length)(ht:t.length=m.length-1-k)(h0:0<=left (ent m) b (k+1) t):zS (zj m m.length) (zo m m.length) k (left (ent m) b (k+1) t) t<=(zp (4*(2^k*b))+1:Nat):=by
 rcases Int.lt_or_le (zS (zj m m.length) (zo m m.length) k (left (ent m) b (k+1) t) t) 1 with h|h
 ·omega
 ·have h1:=zlz hr (by omega) hb1 t hk ht h0 h (Int.le_refl _);obtain⟨c,hc⟩:∃c:Nat,zS (zj m m.length) (zo m m.length) k (left (ent m) b (k+1) t) t-1=(c:Int):=⟨(zS (zj m m.length) (zo m m.length) k (left (ent m) b (k+1) t) t-1).toNat,by omega⟩;rw[hc]at h1;have h2:c*c<=4*(2^k*b):=by
   have:((c*c:Nat):Int)<=((4*(2^k*b):Nat):Int):=by simpa using h1
   exact Int.ofNat_le.1 this
  have h3:=(qG (4*(2^k*b))).2;have h4:=zaw (Nat.lt_of_le_of_lt h2 h3);omega
theorem zlA(hr:RedOK m)(hb1:(b:Int)<1073741824)(k:Nat):∀t:List Int,k<m.length->t.length=m.length-1-k->0<=left (ent m) b (k+1) t->zC (Zo (zj m m.length) (zo m m.length) m.length k (left (ent m) b (k+1) t) t)<=(Qo b k:Nat):=by
 induction k with
 |zero=>
  intro t hk ht h0;have:=zf6 hr hb1 t hk ht h0;simp only[Zo,zC,Qo];simp only[Nat.pow_zero,Nat.one_mul]at this;omega
 |succ k ih=>
  intro t hk ht h0;have h1:=zf6 hr hb1 t hk ht h0;have h2:=Jo (hr.num (by omega) hb1) (jn hr (by omega) hb1 t (k+1) hk ht h0);simp only[Zo,zC,Qo];rw[zls];have h3:=zlt (l:=List.range (zS (zj m m.length) (zo m m.length) (k+1) (left (ent m) b (k+1+1) t) t).toNat) (B:=((Qo b k:Nat):Int))
   (g:=fun j=>zC (Zo (zj m m.length) (zo m m.length) m.length k (ZY (zj m m.length) (zo m m.length) (k+1) (left (ent m) b (k+1+1) t) t (zK (zj m m.length) (zo m m.length) (k+1) (left (ent m) b (k+1+1) t) t+(j:Int))) ((zK (zj m m.length) (zo m m.length) (k+1) (left (ent m) b (k+1+1) t) t+(j:Int))::t)))
   (fun j hj=>by
    have hk0:=J2 hr t hk ht h0 (j:=j) (by simpa using hj);rw[Qn hr hk b t ht];exact ih _ (by omega) (by simp[ht];omega) hk0)
  simp only[List.length_range]at h3;obtain⟨c,hc⟩:∃c:Nat,zS (zj m m.length) (zo m m.length) (k+1) (left (ent m) b (k+1+1) t) t=(c:Int):=⟨(zS (zj m m.length) (zo m m.length) (k+1) (left (ent m) b (k+1+1) t) t).toNat,by omega⟩;rw[hc]at h1 h3|-
  simp only[Int.toNat_natCast]at h3|-
  have h5:c*(1+Qo b k)<=(zp (4*(2^(k+1)*b))+1)*(1+Qo b k):=Nat.mul_le_mul_right _ (by omega);have h6:((c*(1+Qo b k):Nat):Int)<=(((zp (4*(2^(k+1)*b))+1)*(1+Qo b k):Nat):Int):=Int.ofNat_le.2 h5;have h7:((c*(1+Qo b k):Nat):Int)=(c:Int)+(c:Int)*(Qo b k:Nat):=by rw[Nat.mul_add];simp
  omega
end
theorem zlB(n a:Nat)(c:Int)(h:a<n):((List.range n).map fun i=>if a=i then c else 0).sum=c:=by
 induction n with
 |zero=>omega
 |succ n ih=>
  rw[List.range_succ,List.map_append,List.sum_append];simp only[map_cons,List.map_nil,sum_cons,List.sum_nil];by_cases e:a=n
  ·have:∀l:List Nat,(∀i∈l,i<n)->(l.map fun i=>if a=i then c else 0).sum=0:=fun l hl=>by
    induction l with
    |nil=>rfl
    |cons i l ih2=>
     have:=hl i (by simp);simp only[map_cons,sum_cons];rw[ih2 (fun x hx=>hl x (by simp[hx])),if_neg (by omega)];rfl
   rw[this _ (fun i hi=>by simpa using hi),if_pos e];omega
  ·rw[ih (by omega),if_neg e];omega
theorem zf7(l:List Nat)(f g:Nat->Int):(l.map fun i=>f i+g i).sum=(l.map f).sum+(l.map g).sum:=by
 induction l with
 |nil=>rfl
 |cons i l ih=>simp only[map_cons,sum_cons,ih];omega
theorem zc9(n:Nat)(ys:List (Int×Int))(h:∀p∈ys,1<=p.1/\p.1<=(n:Int)):((List.range n).map (zQ ys)).sum=zC ys:=by
 induction ys with
 |nil=>
  have:∀l:List Nat,(l.map (zQ [])).sum=0:=fun l=>by
   induction l with
   |nil=>rfl
   |cons i l ih=>rw[map_cons,sum_cons,ih];rfl
  exact this _
 |cons p ys ih=>
  have h1:=ih (fun q hq=>h q (by simp[hq]));have h2:=h p (by simp);have e:(zQ (p::ys))=fun i=>(if (p.1-1).toNat=i then p.2 else 0)+zQ ys i:=rfl
  rw[e,zf7,zlB n _ _ (by omega),h1];rfl
theorem zlC(hr:RedOK m)(hb:0<=za)(h2:2<=m.length):
  (Zf (zj m m.length) (zo m m.length) false (m.length-1) (left (ent m) za (m.length-1+1) []) false []).length=2*(zP m za false).length+1:=by
 have zqi:=ZZ hr.small;have zqW:=zbw hr hb;have hmemF:∀x,x∈Zf (zj m m.length) (zo m m.length) false (m.length-1) (left (ent m) za (m.length-1+1) []) false []↔x.length=m.length/\zi m x<=za:=fun x=>by
  rw[zbv hr hb false x (m.length-1) false [] (by omega) (by simp) zqW (by simp)];constructor
  ·rintro⟨p,rfl,hp,a1,_,_⟩;simp only[List.append_nil]at a1|-
   have hpl:p.length=m.length:=by omega
   rw[Ju zqi za p hpl]at a1;exact⟨hpl,by omega⟩
  ·rintro⟨a1,a2⟩;rw[Ju zqi za x a1];exact⟨x,by simp,by omega,by omega,by simp,by simp⟩
 have hnd:=zfV hr hb false (m.length-1) false [] (by omega) (by simp) zqW (by simp);have zq8:=jm hr hb false;have zsB:=zfZ hr hb false;obtain⟨C,hC⟩:=Xz (zP m za false);rw[<-hC]at zq8 zsB|-
 have hz:Z9 (List.replicate m.length 0)->False:=fun h=>Jv h (fun y hy=>List.eq_of_mem_replicate hy)
 have zux:((List.replicate m.length 0)::(C++C.map (List.map fun c=>-c))).Nodup:=by
  refine List.nodup_cons.2 ⟨fun hh=>?_,List.nodup_append.2 ⟨zsB,?_,?_⟩⟩
  ·rcases List.mem_append.1 hh with hh|hh
   ·exact hz ((zq8 _).1 hh).2.1
   ·obtain⟨y,hy,e⟩:=mem_map.1 hh;have hy2:=((zq8 y).1 hy).2.1;exact Jv hy2 (fun c hc=>by
     have:-c∈List.replicate m.length (0:Int):=by rw[<-e];exact mem_map.2 ⟨c,hc,rfl⟩
     have:=List.eq_of_mem_replicate this;omega)
  ·unfold List.Nodup;rw[List.pairwise_map];refine List.Pairwise.imp ?_ zsB;intro a b hab e;have:=congrArg (List.map fun c=>-c) e;rw[Jw,Jw]at this;exact hab this
  ·intro a ha b hb' e;obtain⟨y,hy,rfl⟩:=mem_map.1 hb';subst e;exact zc4 ((zq8 y).1 hy).2.1 ((zq8 _).1 ha).2.1
 have hp:=(List.perm_ext_iff_of_nodup hnd zux).2 fun x=>by
  rw[hmemF,mem_cons,List.mem_append,zq8];constructor
  ·rintro⟨a1,a2⟩;by_cases h0:∀y∈x,y=0
   ·exact .inl (List.eq_replicate_iff.2 ⟨a1,h0⟩)
   ·rcases zc5 h0 with h|h
    ·exact .inr (.inl ⟨a1,h,a2,by simp⟩)
    ·refine .inr (.inr (mem_map.2 ⟨x.map fun c=>-c,(zq8 _).2 ⟨by simpa using a1,h,by rw[Jr];exact a2,by simp⟩,Jw x⟩))
  ·rintro(rfl|⟨a1,_,a3,_⟩|hx)
   ·refine⟨by simp,?_⟩;have:=zaK hr hb (by omega:0<=m.length) (List.replicate m.length 0) (fun y hy=>List.eq_of_mem_replicate hy);rw[Ju zqi za _ (by simp)]at this;omega
   ·exact⟨a1,a3⟩
   ·obtain⟨y,hy,rfl⟩:=mem_map.1 hx;obtain⟨b1,_,b3,_⟩:=(zq8 y).1 hy;rw[Jr];exact⟨by simpa using b1,b3⟩
 have:=hp.length_eq;simp at this;omega
structure StepsOK(m:List (List Int))(za:Int)(st:List Int)(total:Int):Prop where
 spec:∀budget:Int,0<=budget->budget<=1000000->qn m za budget=if total<=budget then (st,0) else ([],9)
 len:st.length=m.length
 sum:st.sum=total
 one:∀x∈st,1<=x
 zd:ZE st=2*(zP m za false).length+1
theorem zlD(r:Nat):(qJ h za false r).length=r:=by
 unfold qJ;rw[List.length_map,List.filter_eq_self.2 (by simp),List.length_range]
theorem zda(l:List Int)(h:∀x∈l,1<=x):(l.length:Int)<=l.sum:=by
 induction l with
 |nil=>simp
 |cons a l ih=>
  have:=ih (fun x hx=>h x (by simp[hx]));have:=h a (by simp);simp only[sum_cons,length_cons];omega
def qV(m:List (List Int))(b:Int):Int:=zC (qe (zj m m.length) (zo m m.length) m.length b)
def qK(m:List (List Int))(b:Int):List Int:=(List.range m.length).map (zQ (qe (zj m m.length) (zo m m.length) m.length b))
theorem zbx(h:Zt m=true)(hb1:(b:Int)<1073741824):StepsOK m b (qK m b) (qV m b)/\(qV m b<=(Qo b (m.length-1):Nat)∨(m.length=1/\qV m b<=2*zp b+1)):=by
 have hr:=qT h;have hl:=Qf hr.small;have zuy:jg m b=false:=by simp[jg];omega
 obtain⟨ys,hys⟩:=Xz (qe (zj m m.length) (zo m m.length) m.length b);have e1:qV m b=zC ys:=by rw[hys];rfl
 have e2:qK m b=(List.range m.length).map (zQ ys):=by rw[hys];rfl
 rw[e1,e2];have zrK:(∀p∈ys,0<=p.2/\1<=p.1/\p.1<=(m.length:Int))->∀budget:Int,0<=budget->budget<=1000000->qn m b budget=if zC ys<=budget then ((List.range m.length).map (zQ ys),0) else ([],9):=fun hok budget b0 b1=>by
  have zuz:QM b budget=true:=by simp[QM];omega
  unfold qn;rw[h,zuz,zuy];simp only[if_true,Bool.false_eq_true,if_false];unfold zaC;rw[<-hys,zlv m.length ys budget _ hok b0 (by simp)];have e:((List.range m.length).map fun i=>(List.replicate m.length (0:Int)).getD i 0+zQ ys i)=(List.range m.length).map (zQ ys):=by
   refine List.map_congr_left fun i hi=>?_
   have hi':i<m.length:=by simpa using hi
   simp[List.getD,hi']
  rw[e];by_cases ht:zC ys<=budget
  ·rw[if_pos ht,if_pos ht]
  ·rw[if_neg ht,if_neg ht]
 have zqF:∀F:Nat->Int,ZE ((List.range m.length).map F)=F (m.length-1):=fun F=>by
  have:m.length-1<m.length:=by omega
  simp[ZE,List.getD,this]
 by_cases h1:m.length=1
 ·have hy:ys=[(1,2*((zp ((b:Int) / vD (zj m m.length) 1).toNat:Nat):Int)+1)]:=by rw[hys];unfold qe;rw[if_pos h1]
  have hok:∀p∈ys,0<=p.2/\1<=p.1/\p.1<=(m.length:Int):=fun p hp=>by
   rw[hy]at hp;obtain rfl:p=_:=by simpa using hp
   simp only;omega
  have hd:vD (zj m m.length) 1=ent m 0 0:=by
   rw[Z6 (by omega)];rfl
  have hd1:1<=ent m 0 0:=Z5 (m:=ent m) hr.pos (k:=0) (by omega);refine⟨⟨zrK hok,by simp,zc9 _ ys (fun p hp=>(hok p hp).2),fun x hx=>?_,?_⟩,.inr ⟨h1,?_⟩⟩
  ·obtain⟨i,hi,rfl⟩:=mem_map.1 hx
   have hi':i=0:=by have :i<m.length:=by simpa using hi
                    omega
   subst hi';rw[hy];simp only[zQ];rw[if_pos (by decide)];omega
  ·rw[zqF,hy,show m.length-1=0 by omega];simp only[zQ];rw[if_pos (by decide)];have e:zP m b false=qJ (ent m 0 0) b false (zp ((b:Int) / ent m 0 0).toNat):=by unfold zP;rw[if_pos h1]
   rw[e,zlD,hd];omega
  ·rw[hy];simp only[zC];have q:((b:Int) / vD (zj m m.length) 1).toNat<=b:=by
    rw[hd];have:=Int.ediv_le_self (a:=(b:Int)) (ent m 0 0) (by omega);omega
   have:zp ((b:Int) / vD (zj m m.length) 1).toNat<=zp b:=by
    obtain⟨s1,_⟩:=qG ((b:Int) / vD (zj m m.length) 1).toNat;obtain⟨_,s2⟩:=qG b;have:=zaw (Nat.lt_of_le_of_lt (Nat.le_trans s1 q) s2);omega
   omega
 ·have hy:ys=Zo (zj m m.length) (zo m m.length) m.length (m.length-1) (left (ent m) b (m.length-1+1) []) []:=by
   rw[hys];unfold qe;rw[if_neg h1,zf4 hr]
  have zqW:=zbw (za:=(b:Int)) hr (by omega);have hok:=zc8 hr (by omega) hb1 (m.length-1) [] (by omega) (by simp) zqW;rw[<-hy]at hok;refine⟨⟨zrK hok,by simp,zc9 _ ys (fun p hp=>(hok p hp).2),fun x hx=>?_,?_⟩,.inl ?_⟩
  ·obtain⟨i,hi,rfl⟩:=mem_map.1 hx;have hi':i<m.length:=by simpa using hi
   rw[hy];exact zlx hr (by omega) hb1 (m.length-1) [] (by omega) (by simp) (by simp) i (by omega) hi'
  ·rw[zqF,hy,zlw hr (by omega) hb1 (m.length-1) [] (by omega) (by simp) zqW,zlC hr (by omega) (by omega)];omega
  ·rw[hy];exact zlA hr hb1 (m.length-1) [] (by omega) (by simp) zqW
theorem StepsOK.last_le{st:List Int}{total:Int}(h:StepsOK m za st total)(h1:1<=m.length):ZE st+(m.length-1:Nat)<=total:=by
 have hl:=h.len;have hs:=h.sum;obtain⟨p,c,rfl,hp⟩:=zc1 (p:=st) (k:=m.length-1) (by omega);have e:ZE (p++[c])=c:=by simp[ZE]
 rw[e];have h2:=zda p (fun x hx=>h.one x (by simp[hx]));simp only[List.sum_append,sum_cons,List.sum_nil]at hs;omega
theorem zlE(h:Zt m=true)(hb1:(b:Int)<1073741824)(exact:Bool)(zqf:(zP m b exact).length<=1073741824):EnumOK m b exact:=by
 have hr:=qT h;refine⟨hr.form,hr.s64,J1 h,by omega,fun _=>hb1,fun h1=>?_,zqf,fun x hx=>zlp hr (by omega) hb1 exact x hx,zf0 hr (by omega) exact⟩;have hd1:1<=ent m 0 0:=Z5 (m:=ent m) hr.pos (k:=0) (by omega);have q:((b:Int) / ent m 0 0).toNat<=b:=by
  have:=Int.ediv_le_self (a:=(b:Int)) (ent m 0 0) (by omega);omega
 obtain⟨s1,_⟩:=qG ((b:Int) / ent m 0 0).toNat;rcases Zl (zp ((b:Int) / ent m 0 0).toNat) 1048577 with h2|h2
 ·omega
 ·have:=Nat.mul_le_mul h2 h2;omega
end
section
open Go.RowKit
def RowI(w:World)(b:Nat)(zs:List Int):Prop:=∃cs:List Value,VRow w b 178 cs/\zs.length*2<=cs.length/\VsOf w cs zs
section
variable {w w':World} {b:Nat} {zs:List Int}
theorem VsOf.map{vs:List Value}(h:VsOf w vs zs)(hk:∀{g:Bool}{B:Option Addr}{n c:Nat}{z:Int},IntV w g B n c z->IntV w' g B n c z):VsOf w' vs zs:=fun i z hz=>by
 obtain⟨g,B,n,c,a1,a2,a3⟩:=h i z hz;exact⟨g,B,n,c,a1,a2,hk a3⟩
theorem RowI.ext(h:RowI w b zs)(hx:Ext w w'):RowI w' b zs:=by
 obtain⟨cs,h1,h2,h3⟩:=h;exact⟨cs,h1.ext hx,h2,h3.map fun hz=>hz.ext hx⟩
theorem RowI.oth{T:TypeId}(h:RowI w b zs)(ho:Oth T w w')(h1:178≠T)(h2:305≠T):RowI w' b zs:=by
 obtain⟨cs,a1,a2,a3⟩:=h;exact⟨cs,ho _ _ _ _ h1 a1,a2,a3.map fun hz=>hz.oth ho h2⟩
theorem RowI.heap(h:RowI w b zs):∃cs,w.heap[b]? =some (.cells cs 178 (0,0)):=by
 obtain⟨cs,h1,_⟩:=h;exact⟨_,h1⟩
theorem RowI.lt(h:RowI w b zs):b<w.heap.size:=by
 obtain⟨cs,h1⟩:=h.heap;exact zw h1
theorem RowI.far(h:RowI w b zs){p:Addr}{fr:Nat×Nat}(hp:w.heap[p.block]? =some (.cells cs 178 fr))(hne:b≠p.block)(u:Value):RowI (w.setCell p u) b zs:=by
 obtain⟨cs,h1,h2,h3⟩:=h;exact⟨cs,h1.far hne u,h2,h3.map fun hz=>hz.setCell hp (by decide) u⟩
theorem RowI.far2(h:RowI w b zs){b':Nat}(hp:w.heap[b']? =some (.cells cs 178 (0,0)))(hne:b≠b')(u v:Value):RowI ((w.setCell ⟨b',i,none⟩ u).setCell ⟨b',j,none⟩ v) b zs:=
 (h.far (p:=⟨b',i,none⟩) hp hne u).far (p:=⟨b',j,none⟩) (zY hp u) hne v
theorem RowI.intsV(h:RowI w b zs):IntsV w (some ⟨b,0,none⟩) zs:=by
 obtain⟨cs,h1,h2,h3⟩:=h;refine⟨cs.take (zs.length*2),by simp;omega,fun h0=>⟨b,0,cs.toArray,(0,0),rfl,h1,fun j u hu=>?_⟩,fun i z hz=>?_⟩
 ·rw[List.getElem?_take]at hu;split at hu
  ·simpa using hu
  ·cases hu
 ·have hi:i<zs.length:=(Zg.1 hz).1;obtain⟨g,B,n,c,a1,a2,a3⟩:=h3 i z hz;exact⟨g,B,n,c,by rw[List.getElem?_take,if_pos (by omega)];exact a1,by rw[List.getElem?_take,if_pos (by omega)];exact a2,a3⟩
theorem RowI.cells(h:RowI w b zs)(hz:zs[j]? =some z):∃g B n c,w.cell? ⟨b,j*2,none⟩=some (.bool g)/\w.cell? ⟨b,j*2+1,none⟩=some (.slice B n c)/\IntV w g B n c z/\w.frozen? ⟨b,j*2,none⟩=false/\w.frozen? ⟨b,j*2+1,none⟩=false:=by
 obtain⟨cs,h1,h2,h3⟩:=h;obtain⟨g,B,n,c,a1,a2,a3⟩:=h3 j z hz;exact⟨g,B,n,c,h1.cell a1,h1.cell a2,a3,h1.frozen _,h1.frozen _⟩
theorem RowI.set(h:RowI w b zs)(hj:j<zs.length){g:Bool}(hz:IntV w g B n c z):RowI ((w.setCell ⟨b,j*2,none⟩ (.bool g)).setCell ⟨b,j*2+1,none⟩ (.slice B n c)) b (zs.set j z):=by
 obtain⟨cs,h1,h2,h3⟩:=h;have key:∀{s':Bool}{B':Option Addr}{n' c':Nat}{z:Int},IntV w s' B' n' c' z->IntV ((w.setCell ⟨b,j*2,none⟩ (.bool g)).setCell ⟨b,j*2+1,none⟩ (.slice B n c)) s' B' n' c' z:=fun hz'=>
  (hz'.setCell (p:=⟨b,j*2,none⟩) h1 (by decide) _).setCell (p:=⟨b,j*2+1,none⟩) (h1.set _ _) (by decide) _
 refine⟨_,(h1.set (j*2) (.bool g)).set (j*2+1) (.slice B n c),by simp;omega,fun i y hy=>?_⟩;by_cases e:i=j
 ·subst e;rw[getElem?_set_self hj]at hy;injection hy with hy
  subst hy;refine⟨g,B,n,c,?_,?_,key hz⟩
  ·rw[getElem?_set_ne (by omega),getElem?_set_self (by omega)]
  ·rw[getElem?_set_self (by rw[length_set];omega)]
 ·rw[getElem?_set_ne (by omega)]at hy;obtain⟨g',B',n',c',a1,a2,a3⟩:=h3 i y hy;refine⟨g',B',n',c',?_,?_,key a3⟩
  ·rw[getElem?_set_ne (by omega),getElem?_set_ne (by omega)];exact a1
  ·rw[getElem?_set_ne (by omega),getElem?_set_ne (by omega)];exact a2
end
def Zu(n:Nat)(h:Nat×Nat):Value:= .slice (some ⟨h.1,0,none⟩) n h.2
structure OwnI(w:World)(lo g n:Nat)(hs:List (Nat×Nat))(a:List (List Int)):Prop where
 head:VRow w g 126 (hs.map (Zu n))
 glo:lo<=g
 len:hs.length=a.length
 dist:∀(i j:Nat)(p q:Nat×Nat),hs[i]? =some p->hs[j]? =some q->i≠j->p.1≠q.1
 new:∀h∈hs,lo<=h.1/\n<=h.2/\h.2<=9223372036854775807
 all:AllLen a n
 row:∀(i:Nat)(h:Nat×Nat)(r:List Int),hs[i]? =some h->a[i]? =some r->RowI w h.1 r
section
variable {w w':World} {lo g n:Nat} {hs:List (Nat×Nat)} {a:List (List Int)}
theorem OwnI.ext(h:OwnI w lo g n hs a)(hx:Ext w w'):OwnI w' lo g n hs a:=
 ⟨h.head.ext hx,h.glo,h.len,h.dist,h.new,h.all,fun i p r hp hr=>(h.row i p r hp hr).ext hx⟩
theorem OwnI.hdr(h:OwnI w lo g n hs a)(hi:i<a.length):∃b c,hs[i]? =some (b,c)/\w.cell? ⟨g,i,none⟩=some (.slice (some ⟨b,0,none⟩) n c)/\w.frozen? ⟨g,i,none⟩=false/\n<=c/\c<=9223372036854775807/\b<w.heap.size/\g<w.heap.size:=by
 have hi':i<hs.length:=by rw[h.len];exact hi
 obtain⟨⟨b,c⟩,hp⟩:∃p,hs[i]? =some p:=⟨_,Ze hi'⟩;obtain⟨r,hr⟩:∃r,a[i]? =some r:=⟨_,Ze hi⟩;have hn:=h.new _ (Zm hp);exact⟨b,c,hp,h.head.cell (by simp[hp,Zu]),h.head.frozen _,hn.2.1,hn.2.2,(h.row i _ r hp hr).lt,h.head.lt⟩
theorem zdb{r:List Int}(hr:m[i]? =some r)(hj:j<r.length):r[j]? =some (ent m i j):=by
 unfold ent;simp[hr,hj]
theorem OwnI.entry(h:OwnI w lo g n hs a)(hp:hs[i]? =some (b,c))(hi:i<a.length)(hj:j<n):∃s B k d,w.cell? ⟨b,j*2,none⟩=some (.bool s)/\w.cell? ⟨b,j*2+1,none⟩=some (.slice B k d)/\IntV w s B k d (ent a i j)/\w.frozen? ⟨b,j*2,none⟩=false/\w.frozen? ⟨b,j*2+1,none⟩=false:=by
 obtain⟨r,hr⟩:∃r,a[i]? =some r:=⟨_,Ze hi⟩;exact(h.row i _ r hp hr).cells (zdb hr (by rw[h.all r (Zm hr)];exact hj))
theorem OwnI.mat(h:OwnI w lo g n hs a):MatV w (some ⟨g,0,none⟩) a:=by
 refine⟨hs.map (Zu n),by simp[h.len],h.head.arr,fun i r hr=>?_⟩;have hi:i<a.length:=(Zg.1 hr).1;obtain⟨⟨b,c⟩,hp⟩:∃p,hs[i]? =some p:=⟨_,Ze (by rw[h.len];exact hi)⟩;have hn:=h.new _ (Zm hp);have hl:=h.all r (Zm hr);refine⟨some ⟨b,0,none⟩,c,by simp[hp,Zu,hl],(h.row i _ r hp hr).intsV,by rw[hl];exact hn.2.1,hn.2.2⟩
def zU(a:List (List Int))(i j:Nat)(z:Int):List (List Int):=a.set i ((a.getD i []).set j z)
theorem zf8{a:List (List Int)}(hi:i<a.length)(hj:j<(a.getD i []).length)(x y:Nat):ent (zU a i j z) x y=if x=i/\y=j then z else ent a x y:=by
 unfold ent zU;by_cases hx:x=i
 ·subst hx;by_cases hy:y=j
  ·subst hy;simp only[List.getD_eq_getElem?_getD]at hj|-
   rw[getElem?_set_self hi,Option.getD_some,getElem?_set_self hj];simp
  ·simp only[List.getD_eq_getElem?_getD];rw[getElem?_set_self hi,Option.getD_some,getElem?_set_ne (by omega)];simp[hy]
 ·simp only[List.getD_eq_getElem?_getD];rw[getElem?_set_ne (by omega)];simp[hx]
theorem jW(a:List (List Int))(i j:Nat)(z:Int):(zU a i j z).length=a.length:=by simp[zU]
theorem OwnI.set(h:OwnI w lo g n hs a)(hp:hs[i]? =some (b,c))(hi:i<a.length)(hj:j<n){s:Bool}{d:Nat}(hz:IntV w s B k d z):
  OwnI ((w.setCell ⟨b,j*2,none⟩ (.bool s)).setCell ⟨b,j*2+1,none⟩ (.slice B k d)) lo g n hs (zU a i j z):=by
 obtain⟨r,hr⟩:∃r,a[i]? =some r:=⟨_,Ze hi⟩;have hR:=h.row i _ r hp hr;have hl:=h.all r (Zm hr);obtain⟨cs,hcs⟩:=hR.heap;have hgd:a.getD i []=r:=by simp[List.getD,hr]
 have hgb:g≠b:=fun e=>by
  have h1:=h.head;unfold VRow at h1;rw[e,hcs]at h1;injection h1 with h1
  injection h1 with _ h1
  exact absurd h1 (by decide)
 refine⟨(h.head.far (p:=⟨b,j*2,none⟩) hgb _).far (p:=⟨b,j*2+1,none⟩) hgb _,h.glo,by rw[jW];exact h.len,h.dist,h.new,fun x hx=>?_,fun i' p' r' hp' hr'=>?_⟩
 ·rcases List.mem_or_eq_of_mem_set hx with hx|rfl
  ·exact h.all x hx
  ·rw[hgd,length_set,hl]
 ·by_cases e:i'=i
  ·subst e;rw[hp]at hp';injection hp' with hp'
   subst hp';unfold zU at hr';rw[getElem?_set_self hi,hgd]at hr';injection hr' with hr'
   subst hr';exact hR.set (by omega) hz
  ·unfold zU at hr';rw[getElem?_set_ne (by omega)]at hr';exact(h.row i' p' r' hp' hr').far2 hcs (h.dist _ _ _ _ hp' hp e) _ _
theorem OwnI.swap(h:OwnI w lo g n hs a){p k:Nat}{hp hk:Nat×Nat}(h1:hs[p]? =some hp)(h2:hs[k]? =some hk)(hpa:p<a.length)(hka:k<a.length):
  OwnI ((w.setCell ⟨g,p,none⟩ (Zu n hk)).setCell ⟨g,k,none⟩ (Zu n hp)) lo g n ((hs.set p hk).set k hp) ((a.set p (a.getD k [])).set k (a.getD p [])):=by
 have hpl:p<hs.length:=(Zg.1 h1).1;have hkl:k<hs.length:=(Zg.1 h2).1;have e1:((w.setCell ⟨g,p,none⟩ (Zu n hk)).setCell ⟨g,k,none⟩ (Zu n hp)).heap[g]? =some (.cells ((((hs.set p hk).set k hp).map (Zu n)).toArray) 126 (0,0)):=by
  have:=(h.head.set p (Zu n hk)).set k (Zu n hp);unfold VRow at this;rw[this,List.map_set,List.map_set]
 have zqx:Oth 126 w ((w.setCell ⟨g,p,none⟩ (Zu n hk)).setCell ⟨g,k,none⟩ (Zu n hp)):=Oth.set2 h.head p k _ _;have zsC:∀i q,((hs.set p hk).set k hp)[i]? =some q->∃i',hs[i']? =some q/\((a.set p (a.getD k [])).set k (a.getD p []))[i]? =a[i']? :=fun i q hq=>by
  by_cases hik:i=k
  ·subst hik;rw[getElem?_set_self (by rw[length_set];exact hkl)]at hq;injection hq with hq
   subst hq;refine⟨p,h1,?_⟩;rw[getElem?_set_self (by rw[length_set];exact hka),List.getD,Ze hpa];rfl
  ·rw[getElem?_set_ne (by omega)]at hq;by_cases hip:i=p
   ·subst hip;rw[getElem?_set_self hpl]at hq;injection hq with hq
    subst hq;refine⟨k,h2,?_⟩;rw[getElem?_set_ne (by omega),getElem?_set_self hpa,List.getD,Ze hka];rfl
   ·rw[getElem?_set_ne (by omega)]at hq;refine⟨i,hq,?_⟩;rw[getElem?_set_ne (by omega),getElem?_set_ne (by omega)]
 refine⟨e1,h.glo,by simp[h.len],?_,fun q hq=>?_,fun r hr=>?_,fun i q r hq hr=>?_⟩
 ·have wh:∀i q,((hs.set p hk).set k hp)[i]? =some q->hs[(if i=k then p else if i=p then k else i)]? =some q:=fun i q hq=>by
   by_cases hik:i=k
   ·subst hik;rw[getElem?_set_self (by rw[length_set];exact hkl)]at hq;rw[if_pos rfl,h1];exact hq
   ·rw[getElem?_set_ne (by omega)]at hq;rw[if_neg hik];by_cases hip:i=p
    ·subst hip;rw[getElem?_set_self hpl]at hq;rw[if_pos rfl,h2];exact hq
    ·rw[getElem?_set_ne (by omega)]at hq;rw[if_neg hip];exact hq
  intro i j q1 q2 hq1 hq2 hij;refine h.dist _ _ _ _ (wh i q1 hq1) (wh j q2 hq2) ?_;split<;>split<;>(try split)<;>(try split)<;>omega
 ·obtain⟨i,hi⟩:=List.getElem?_of_mem hq;obtain⟨i',h3,_⟩:=zsC i q hi;exact h.new q (Zm h3)
 ·obtain⟨i,hi⟩:=List.getElem?_of_mem hr;obtain⟨q,hq⟩:∃q,((hs.set p hk).set k hp)[i]? =some q:=⟨_,Ze (by have:=(Zg.1 hi).1;simp at this|-;rw[h.len];exact this)⟩;obtain⟨i',_,h4⟩:=zsC i q hq;rw[h4]at hi;exact h.all r (Zm hi)
 ·obtain⟨i',h3,h4⟩:=zsC i q hq;rw[h4]at hr;exact(h.row i' q r h3 hr).oth zqx (by decide) (by decide)
end
end
section
theorem J3(j:Nat):(4294967296:Int)^j=2^(32*j):=by
 rw[Int.pow_mul];rfl
theorem zf9{x:Int}(hx:l[j]? =some x):val l=val (l.take j)+(4294967296:Int)^j*(x+4294967296*val (l.drop (j+1))):=by
 have hj:j<l.length:=(Zg.1 hx).1;have h1:=za8 (l:=l) j;rw[List.length_take,Nat.min_eq_left (by omega)]at h1;have h2:l.drop j=x::l.drop (j+1):=by
  rw[List.drop_eq_getElem_cons hj,(Zg.1 hx).2]
 rw[h2]at h1;exact h1
theorem zlF(hl:Limbs l){x:Int}(hx:l[j]? =some x)(hk:k<32):(x / 2^k)%2=(val l / 2^(32*j+k))%2:=by
 have h1:=zf9 hx;have h2:=qP (hl.take j);have h3:=ZV (hl.take j);have hj:j<l.length:=(Zg.1 hx).1;rw[List.length_take,Nat.min_eq_left (by omega)]at h3;have hp:=QI j;have e1:val l / (4294967296:Int)^j=x+4294967296*val (l.drop (j+1)):=by
  rw[h1,Int.add_mul_ediv_left _ _ (by omega),Int.ediv_eq_zero_of_lt h2 h3];omega
 have e2:val l / 2^(32*j+k)=val l / (4294967296:Int)^j / 2^k:=by
  rw[Int.pow_add,<-J3,Int.ediv_ediv_of_nonneg (by omega)]
 rw[e2,e1];have hk2:(0:Int)<2^k:=Int.pow_pos (by decide);obtain⟨t,ht⟩:∃t,32=k+(t+1):=⟨31-k,by omega⟩;have e3:(4294967296:Int)=2^k*(2*2^t):=by
  have:(4294967296:Int)=2^32:=rfl;rw[this,ht,Int.pow_add,Int.pow_succ];grind
 have e4:x+4294967296*val (l.drop (j+1))=x+2^k*(2*(2^t*val (l.drop (j+1)))):=by rw[e3];grind
 rw[e4,Int.add_mul_ediv_left _ _ (by omega)];omega
theorem zdc(a k:Nat)(h:a%2^(k+1)=0):a|||2^k=a+2^k:=by
 have h1:a=(a / 2^(k+1))<<<(k+1):=by
  rw[Nat.shiftLeft_eq,Nat.div_mul_cancel (Nat.dvd_of_mod_eq_zero h)]
 have h2:=Nat.shiftLeft_add_eq_or_of_lt (b:=2^k) (i:=k+1) (Nat.pow_lt_pow_right (by omega) (by omega)) (a / 2^(k+1));rw[<-h1]at h2;exact h2.symm
structure DivI(M N:Int)(i:Nat)(Q R:Int):Prop where
 eq:M / 2^i=Q*N+R
 r0:0<=R
 r1:R<N
 q0:0<=Q
theorem zga(M:Int)(i:Nat):M / 2^i=2*(M / 2^(i+1))+(M / 2^i)%2:=by
 have e:M / 2^(i+1)=M / 2^i / 2:=by rw[Int.pow_succ,Int.ediv_ediv_of_nonneg (Int.le_of_lt (Int.pow_pos (by decide)))]
 rw[e];omega
theorem DivI.low(h:DivI M N (i+1) Q R)(hlt:2*R+(M / 2^i)%2<N):DivI M N i (2*Q) (2*R+(M / 2^i)%2):=by
 have h1:=zga M i;have h2:=h.eq;have h3:=h.r0;have h4:=h.q0;refine⟨?_,by omega,hlt,by omega⟩;rw[h1,h2];grind
theorem DivI.high(h:DivI M N (i+1) Q R)(hge:N<=2*R+(M / 2^i)%2):DivI M N i (2*Q+1) (2*R+(M / 2^i)%2-N):=by
 have h1:=zga M i;have h2:=h.eq;have h3:=h.r0;have h4:=h.q0;have h5:=h.r1;refine⟨?_,by omega,by omega,by omega⟩;rw[h1,h2];grind
theorem DivI.start(h0:0<=M)(hM:M<2^i)(hN:0<N):DivI M N i 0 0:=
 ⟨by rw[Int.ediv_eq_zero_of_lt h0 hM];omega,by omega,hN,by omega⟩
theorem DivI.done(h:DivI M N 0 Q R):Q=M / N/\R=M%N:=by
 have h1:=h.eq;rw[Int.pow_zero,Int.ediv_one]at h1;have h2:=h.r0;have h3:=h.r1;have e:M=R+N*Q:=by rw[h1];grind
 constructor
 ·rw[e,Int.add_mul_ediv_left _ _ (by omega),Int.ediv_eq_zero_of_lt h2 h3];omega
 ·rw[e,Int.add_mul_emod_self_left,Int.emod_eq_of_lt h2 h3]
end
end Go.Proofs.YtpijjipngkdhdaaGreat

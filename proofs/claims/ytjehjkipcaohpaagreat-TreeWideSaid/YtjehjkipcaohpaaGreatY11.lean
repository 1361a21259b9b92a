/- Vm3 Vm4 Vm5 OwnM Dm -/
import Derived.Test.YtjehjkipcaohpaaGreatY10
import Derived.Test.YtjehjkipcaohpaaGreatProg
import Derived.Test.YtjehjkipcaohpaaGreatYSh
set_option maxHeartbeats 8000000
set_option linter.unusedVariables false
set_option linter.unusedSimpArgs false
set_option linter.constructorNameAsVariable false
namespace Go.Proofs.YtjehjkipcaohpaaGreat
open La
theorem zfQ:∀l m:List Int,zy l m=zy m l
 |[],[]=>rfl
 |[],_::_=>rfl
 |_::_,[]=>rfl
 |a::l,b::m=>by simp only [zy];rw [zfQ l m,Int.mul_comm]
theorem zlK {m:List (List Int)} {n i:Nat} (hn:AllLen m n) (hi:i<m.length) (x:List Int) (hx:x.length=n):zy (m.getD i []) x=Zr (ent m i) 0 x:=by
 have hl:(m.getD i []).length=n:=by
  have :m[i].length=n:=hn _ (List.getElem_mem _);simpa [List.getD,hi] using this
 exact zc1 _ x 0 _ (by omega) (fun j _=>by simp [ent])
theorem JJ {m:List (List Int)} (hn:AllLen m m.length) (x:List Int) (hx:x.length=m.length):zp m x=qE (ent m) 0 x:=by
 unfold zp qE QN;rw [zfQ];refine zc1 _ x 0 _ (by simp [qt,hx]) (fun i hi=>?_);have hi':i<m.length:=by omega
 have :(qt m x).getD i 0=zy (m.getD i []) x:=by simp [qt,hi']
 rw [this,zlK hn hi' x hx,Nat.zero_add];rfl
theorem Qk {m:List (List Int)} (hn:AllLen m m.length) (bound:Int) (x:List Int) (hx:x.length=m.length):left (ent m) bound 0 x=bound-zp m x:=by
 unfold left;rw [JJ hn x hx];show 1*bound-_=_;omega
theorem zlL {h bound:Int} (h1:1<=h) (hb:0<=bound) (exact:Bool) (x:List Int):x∈Jc h bound exact (zk (bound / h).toNat)↔∃c:Int,x=[c]/\1<=c/\h*c*c<=bound/\(exact=true->h*c*c=bound):=by
 obtain ⟨h2,h3⟩:=zcv h1 hb;obtain ⟨r,hr⟩:∃r,r=zk (bound / h).toNat:=⟨_,rfl⟩;rw [<-hr] at h2 h3 |-
 simp only [Jc,List.mem_map,List.mem_filter,List.mem_range];constructor
 ·rintro ⟨i,⟨hi,hp⟩,rfl⟩;refine ⟨(i:Int)+1,rfl,by omega,h2 _ (by omega) (by omega),fun he=>?_⟩;simpa [he] using hp
 ·rintro ⟨c,rfl,c1,c2,c3⟩;have hc:c<=r:=by
   rcases Int.lt_or_le (r:Int) c with hlt |hle
   ·have e1:h*((r:Int)+1)<=h*c:=Int.mul_le_mul_of_nonneg_left (by omega) (by omega);have e2:h*((r:Int)+1)*((r:Int)+1)<=h*c*c:=Int.mul_le_mul e1 (by omega) (by omega) (Int.mul_nonneg (by omega) (by omega));omega
   ·exact hle
  refine ⟨(c-1).toNat,⟨by omega,?_⟩,by congr 1;omega⟩;rw [show ((c-1).toNat:Int)+1=c by omega]
  cases exact with
  |false=>rfl
  |true=>simp [c3 rfl]
theorem JK {m:List (List Int)} (hr:RedOK m) {bound:Int} (hb:0<=bound) (exact:Bool) (x:List Int):x∈ql m bound exact↔x.length=m.length/\ZZ x/\zp m x<=bound/\(exact=true->zp m x=bound):=by
 have zqk:=ZF hr.small;have hl:=ZJ hr.small;unfold ql;split
 ·rename_i h1
  have h00:=hr.pos;have hd:1<=ent m 0 0:=by
   have :=Z7 (m:=ent m) hr.pos (k:=0) (by omega);exact this
  rw [zlL hd hb];have hn:∀c:Int,zp m [c]=ent m 0 0*c*c:=fun c=>by
   rw [JJ zqk [c] (by simp [h1])];simp only [qE,QN,Zr,E];grind
  constructor
  ·rintro ⟨c,rfl,c1,c2,c3⟩;rw [hn];exact ⟨by simp [h1],.inr ⟨by simp,by omega⟩,c2,c3⟩
  ·rintro ⟨a1,a2,a3,a4⟩;obtain ⟨c,rfl⟩:∃c,x=[c]:=by
    match x,a1 with
    |[c],_=>exact ⟨c,rfl⟩
    |[],h=>simp at h;omega
    |_::_::_,h=>simp at h;omega
   rw [hn] at a3 a4;have :0<c:=by
    rcases a2 with h |⟨_,h⟩
    ·exact absurd h (by simp [ZZ])
    ·exact h
   exact ⟨c,rfl,by omega,a3,a4⟩
 ·have e:vD (za m m.length) m.length*bound=left (ent m) bound (m.length-1+1) []:=by
   rw [show m.length-1+1=m.length by omega,zav,ZW (Nat.le_refl _)]
  rw [e,zbl hr hb exact x (m.length-1) true [] (by omega) (by simp) ?_ (by simp)]
  ·constructor
   ·rintro ⟨p,rfl,hp,a1,a2,a3⟩;simp only [List.append_nil] at a1 a2 |-
    have hpl:p.length=m.length:=by omega
    rw [Qk zqk bound p hpl] at a1 a2;exact ⟨hpl,a3 rfl,by omega,fun h=>by have :=a2 h;omega⟩
   ·rintro ⟨a1,a2,a3,a4⟩;rw [Qk zqk bound x a1];exact ⟨x,by simp,by omega,by omega,fun h=>by have :=a4 h;omega,fun _=>a2⟩
  ·rw [<-e];have :=ZW (m:=m) (k:=m.length) (Nat.le_refl _);rw [this];exact Int.mul_nonneg (Int.le_of_lt (Zv hr.pos (Nat.le_refl _))) hb
theorem Ql {m:List (List Int)} (hr:RedOK m) {bound:Int} (hb:0<=bound) (hb1:bound<1073741824) (t:List Int):∀k,k<m.length->t.length=m.length-1-k->0<=left (ent m) bound (k+1) t->LevOK (za m m.length) m.length bound k (left (ent m) bound (k+1) t) t:=by
 have zqu:=QK (ZF hr.small) (fun i j hi hj=>((of_decide_eq_true hr.small).2.2.2 i hi j hj).1);induction t with
 |nil=>
  intro k hk ht h0;have e:k+1=m.length:=by simp at ht;omega
  rw [e] at h0 |-
  refine ⟨hk,h0,?_,ht,by simp [zY]⟩;rw [zav,e,ZW (Nat.le_refl _)];exact Int.le_refl _
 |cons c t ih=>
  intro k hk ht h0;simp only [List.length_cons] at ht;have h1:=zc0 zqu (hr.pos.le (by omega:k+1+1<=m.length)) bound c t h0;have h2:=ih (k+1) (by omega) (by omega) h1;have h3:=(Qj hr (by omega:k+1<m.length) t (by omega) h1 c).2 h0;have h4:=LevOK.next (hr.num hb hb1) h2 h3.1 h3.2;rwa [qx hr (by omega) bound t (by omega)] at h4
theorem zlM {m:List (List Int)} (hr:RedOK m) (t:List Int):∀k,k+t.length<=m.length->0<=qE (ent m) k t:=by
 have zqu:=QK (ZF hr.small) (fun i j hi hj=>((of_decide_eq_true hr.small).2.2.2 i hi j hj).1);induction t with
 |nil=>intro k _;exact Int.le_refl _
 |cons c t ih=>
  intro k hk;simp only [List.length_cons] at hk;have h1:=ih (k+1) (by omega);have h2:=zcY zqu (hr.pos.le (by omega:k+1<=m.length)) c t;have h3:=Zv hr.pos (by omega:k<=m.length);have h4:=Zv hr.pos (by omega:k+1<=m.length);have h5:=Int.mul_nonneg (Int.le_of_lt h3) h1;have h6:=zfM (lE (ent m) k (c::t));rcases Int.lt_or_le (qE (ent m) k (c::t)) 0 with h7 |h7
  ·have :=Int.mul_neg_of_pos_of_neg h4 h7;omega
  ·exact h7
theorem zfR {m:List (List Int)} (hr:RedOK m) (x:List Int) (hx:x.length=m.length):0<=zp m x:=by
 rw [JJ (ZF hr.small) x hx];exact zlM hr x 0 (by omega)
theorem zfS {m:List (List Int)} (hr:RedOK m) {bound:Int} (hb:0<=bound) (hb1:bound<1073741824) (x:List Int) (hx:x.length=m.length) (hn:zp m x<=bound):zY x<=1099511627776:=by
 have zqk:=ZF hr.small;have hl:=ZJ hr.small;have zqu:=QK (ZF hr.small) (fun i j hi hj=>((of_decide_eq_true hr.small).2.2.2 i hi j hj).1);have h0:0<=left (ent m) bound 0 x:=by rw [Qk zqk bound x hx];omega
 cases x with
 |nil=>simp [zY]
 |cons c t=>
  simp only [List.length_cons] at hx;have h1:=zc0 zqu (hr.pos.le (by omega:0+1<=m.length)) bound c t h0;have h2:=Ql hr hb hb1 t 0 (by omega) (by omega) h1;have h3:=(Qj hr (by omega:0<m.length) t (by omega) h1 c).2 h0;have hN:=hr.num hb hb1;have h4:=j6 hN h2;have h5:=jm hN h2;have h6:=QX hN h2;simp only [zY];omega
theorem zlN {x:List Int} (h:zY x<=1099511627776):Qe x=true:=by
 unfold Qe;rw [List.all_eq_true];intro y hy;obtain ⟨i,hi⟩:=List.getElem?_of_mem hy;have :=JA x i y hi;simp only [Bool.and_eq_true,decide_eq_true_eq];omega
theorem zlO {x:List Int} (h:zq x=0):∀y∈x,y=0:=by
 induction x with
 |nil=>simp
 |cons a x ih=>
  simp only [zq] at h;split at h
  ·rename_i ha
   intro y hy;rcases List.mem_cons.1 hy with rfl |hy
   ·exact ha
   ·exact ih h y hy
  ·omega
theorem zaz {x:List Int} (h:ZZ x):¬∀y∈x,y=0:=by
 induction x with
 |nil=>exact absurd h (by simp [ZZ])
 |cons a x ih=>
  intro hz;rcases h with h |⟨_,h⟩
  ·exact ih h (fun y hy=>hz y (by simp [hy]))
  ·have :=hz a (by simp);omega
theorem zc4 {x:List Int} (h:ZZ x):¬ZZ (x.map fun c=>-c):=by
 induction x with
 |nil=>exact absurd h (by simp [ZZ])
 |cons a x ih=>
  rintro (h2 |⟨h2,h3⟩)
  ·rcases h with h |⟨h,_⟩
   ·exact ih h h2
   ·exact zaz h2 (fun y hy=>by
     obtain ⟨z,hz,rfl⟩:=List.mem_map.1 hy;have :=h z hz;omega)
  ·rcases h with h |⟨_,h⟩
   ·exact zaz h (fun y hy=>by
     have :=h2 (-y) (List.mem_map.2 ⟨y,hy,rfl⟩);omega)
   ·have h4:0< -a:=h3;omega
theorem zfT {x:List Int} (h:¬∀y∈x,y=0):ZZ x∨ZZ (x.map fun c=>-c):=by
 induction x with
 |nil=>exact absurd (by simp) h
 |cons a x ih=>
  by_cases hx:∀y∈x,y=0
  ·have ha:a≠0:=fun ha=>h (fun y hy=>by
    rcases List.mem_cons.1 hy with rfl |hy
    ·exact ha
    ·exact hx y hy)
   rcases (by omega:0<a∨0< -a) with h1 |h1
   ·exact .inl (.inr ⟨hx,h1⟩)
   ·refine .inr (.inr ⟨fun y hy=>?_,h1⟩);obtain ⟨z,hz,rfl⟩:=List.mem_map.1 hy;have :=hx z hz;omega
  ·rcases ih hx with h1 |h1
   ·exact .inl (.inl h1)
   ·exact .inr (.inl h1)
theorem JL (x:List Int):(x.map fun c=>-c).map (fun c=>-c)=x:=by
 induction x with
 |nil=>rfl
 |cons a x ih=>simp only [List.map_cons,ih,Int.neg_neg]
theorem zlP {x y:List Int} (hx:ZZ x) (hy:ZZ y) (h:zC x=zC y):x=y:=by
 unfold zC at h;split at h<;>split at h
 ·have :=congrArg (List.map fun c=>-c) h;rwa [JL,JL] at this
 ·rw [<-h] at hy;exact absurd hy (zc4 hx)
 ·rw [h] at hx;exact absurd hx (zc4 hy)
 ·exact h
theorem zfU (x:List Int):zq (x.map fun c=>-c)=-zq x:=by
 induction x with
 |nil=>rfl
 |cons a x ih=>
  simp only [List.map_cons,zq,ih];by_cases h:a=0
  ·simp [h]
  ·rw [if_neg h,if_neg (by omega)]
theorem zfV (x:List Int) (h:zq x≠0):0<zq (zC x):=by
 unfold zC;split
 ·rw [zfU];omega
 ·omega
theorem zfW {m:List (List Int)} (hr:RedOK m) {bound:Int} (hb:0<=bound) (exact:Bool):(ql m bound exact).Nodup:=by
 have hl:=ZJ hr.small;unfold ql;split
 ·unfold Jc;unfold List.Nodup;rw [List.pairwise_map];refine List.Pairwise.imp ?_ (List.Pairwise.filter _ List.nodup_range);intro a b hab e;injection e with e1
  omega
 ·have e:vD (za m m.length) m.length*bound=left (ent m) bound (m.length-1+1) []:=by
   rw [show m.length-1+1=m.length by omega,zav,ZW (Nat.le_refl _)]
  rw [e];refine zfP hr hb exact (m.length-1) true [] (by omega) (by simp) ?_ (by simp);rw [<-e,ZW (Nat.le_refl _)];exact Int.mul_nonneg (Int.le_of_lt (Zv hr.pos (Nat.le_refl _))) hb
theorem zfX {m:List (List Int)} (hr:RedOK m) {bound:Int} (hb:0<=bound) (exact:Bool):((ql m bound exact).map zC).Nodup:=by
 unfold List.Nodup;rw [List.pairwise_map];refine List.Pairwise.imp_of_mem ?_ (zfW hr hb exact);intro a b ha hb' hab e;exact hab (zlP ((JK hr hb exact a).1 ha).2.1 ((JK hr hb exact b).1 hb').2.1 e)
theorem zfY {m:List (List Int)} (h:Ze m=true):RedM m:=by
 have hr:=Zw h;refine ⟨h,ZF hr.small,fun r hr' x hx=>?_,(ZJ hr.small).2⟩;obtain ⟨i,j,hi,hj,rfl⟩:=zfz (ZF hr.small) hr' hx;have :=((of_decide_eq_true hr.small).2.2.2 i hi j hj).2;omega
structure VecList (m:List (List Int)) (bound:Int) (exact:Bool) (L:List (List Int)):Prop where
 sorted:L.Pairwise (fun x y=>qk (zp m x) (zp m y) x y<0)
 mem:∀x,x∈L↔x.length=m.length/\0<zq x/\zp m x<=bound/\(exact=true->zp m x=bound)
theorem zfZ (m:List (List Int)) (x y:List Int) (h:qk (zp m x) (zp m y) x y<0):¬qk (zp m y) (zp m x) y x<0:=by
 rw [zcq] at h |-
 rw [jE];omega
theorem VecList.nodup {m:List (List Int)} {bound:Int} {exact:Bool} {L:List (List Int)} (h:VecList m bound exact L):L.Nodup:=by
 refine List.Pairwise.imp ?_ h.sorted;intro a b hab e;subst e;exact zfZ m a a hab hab
theorem VecList.unique {m:List (List Int)} {bound:Int} {exact:Bool} {L T:List (List Int)} (h:VecList m bound exact L) (h':VecList m bound exact T):L=T:=by
 have hp:L.Perm T:=(List.perm_ext_iff_of_nodup h.nodup h'.nodup).2 fun x=>(h.mem x).trans (h'.mem x).symm
 exact List.Perm.eq_of_pairwise (fun a b _ _ h1 h2=>absurd h2 (zfZ m a b h1)) h.sorted h'.sorted hp
def zA:List (Int×Int)->Int
 |[]=>0
 |p::ys=>p.2+zA ys
def zM:List (Int×Int)->Nat->Int
 |[],_=>0
 |p::ys,i=>(if (p.1-1).toNat=i then p.2 else 0)+zM ys i
theorem zc5 (a b:List (Int×Int)):zA (a++b)=zA a+zA b:=by
 induction a with
 |nil=>simp [zA]
 |cons p a ih=>simp only [List.cons_append,zA,ih];omega
theorem zc6 (a b:List (Int×Int)) (i:Nat):zM (a++b) i=zM a i+zM b i:=by
 induction a with
 |nil=>simp [zM]
 |cons p a ih=>simp only [List.cons_append,zM,ih];omega
theorem zf0 (F:Nat->List (Int×Int)) (l:List Nat):zA (l.flatMap F)=(l.map fun j=>zA (F j)).sum:=by
 induction l with
 |nil=>rfl
 |cons j l ih=>simp only [List.flatMap_cons,zc5,ih,List.map_cons,List.sum_cons]
theorem zf1 (F:Nat->List (Int×Int)) (i:Nat) (l:List Nat):zM (l.flatMap F) i=(l.map fun j=>zM (F j) i).sum:=by
 induction l with
 |nil=>rfl
 |cons j l ih=>simp only [List.flatMap_cons,zc6,ih,List.map_cons,List.sum_cons]
theorem zlQ {l:List Nat} {g:Nat->Int} {B:Int} (h:∀j∈l,g j<=B):(l.map g).sum<=(l.length:Int)*B:=by
 induction l with
 |nil=>simp
 |cons j l ih=>
  have h1:=ih (fun x hx=>h x (by simp [hx]));have h2:=h j (by simp);simp only [List.map_cons,List.sum_cons,List.length_cons,Int.natCast_add,Int.add_mul];omega
theorem zf2 {l:List Nat} {g:Nat->Int} (h:∀j∈l,0<=g j):0<=(l.map g).sum:=by
 induction l with
 |nil=>simp
 |cons j l ih=>
  have h1:=ih (fun x hx=>h x (by simp [hx]));have h2:=h j (by simp);simp only [List.map_cons,List.sum_cons];omega
theorem zlR {l:List Nat} {g:Nat->Int} (h:∀j∈l,0<=g j) {a:Nat} (ha:a∈l):g a<=(l.map g).sum:=by
 induction l with
 |nil=>simp at ha
 |cons j l ih=>
  have h0:=zf2 (fun x hx=>h x (List.mem_cons_of_mem j hx));have h2:=h j (by simp);simp only [List.map_cons,List.sum_cons];rcases List.mem_cons.1 ha with rfl |ha
  ·omega
  ·have :=ih (fun x hx=>h x (by simp [hx])) ha;omega
theorem zlS (n:Nat) (ys:List (Int×Int)):∀(left:Int) (st:List Int),(∀p∈ys,0<=p.2/\1<=p.1/\p.1<=n)->0<=left->st.length=n->
  Qt ys left st=if zA ys<=left then some (left-zA ys,(List.range n).map fun i=>st.getD i 0+zM ys i) else none:=by
 induction ys with
 |nil=>
  intro left st _ h0 hl;rw [if_pos (show zA []<=left from h0)];have e1:left-zA []=left:=by simp only [zA];omega
  have e2:(List.range n).map (fun i=>st.getD i 0+zM [] i)=st:=by
   refine List.ext_getElem (by simp [hl]) fun i h1 h2=>?_
   simp [List.getD,h2,zM]
  rw [e1,e2];rfl
 |cons p ys ih=>
  obtain ⟨len,cnt⟩:=p;intro left st hp h0 hl;have hp0:=hp (len,cnt) (by simp);simp only at hp0;have zqQ:0<=zA ys:=by
   have :∀l:List (Int×Int),(∀p∈l,0<=p.2)->0<=zA l:=fun l hh=>by
    induction l with
    |nil=>simp [zA]
    |cons q l ih2=>have a:=ih2 (fun p hp=>hh p (by simp [hp]));have b:=hh q (by simp);simp only [zA];omega
   exact this ys (fun p hp'=>(hp p (by simp [hp'])).1)
  have htc:zA ((len,cnt)::ys)=cnt+zA ys:=rfl;simp only [Qt];split
  ·rw [if_neg (by omega)]
  ·rw [ih (left-cnt) _ (fun p hp'=>hp p (by simp [hp'])) (by omega) (by simpa using hl)];by_cases h:zA ys<=left-cnt
   ·rw [if_pos h,if_pos (by omega)];have e1:left-cnt-zA ys=left-zA ((len,cnt)::ys):=by omega
    rw [e1];congr 2
    ·refine List.map_congr_left fun i hi=>?_
     have hi':i<n:=by simpa using hi
     simp only [zM,List.getD_eq_getElem?_getD,List.getElem?_set];by_cases e:(len-1).toNat=i
     ·rw [if_pos e,if_pos (by omega)];simp [e];omega
     ·rw [if_neg e,if_neg e];omega
   ·rw [if_neg h,if_neg (by omega)]
section
variable {m:List (List Int)} {bound:Int}
theorem Qa (hr:RedOK m) (hb:0<=bound):0<=left (ent m) bound (m.length-1+1) []:=by
 have hl:=ZJ hr.small;rw [show m.length-1+1=m.length by omega,zav];exact Int.mul_nonneg (Int.le_of_lt (Zv hr.pos (Nat.le_refl _))) hb
theorem zbm (hr:RedOK m):vD (za m m.length) m.length*bound=left (ent m) bound (m.length-1+1) []:=by
 have hl:=ZJ hr.small;rw [show m.length-1+1=m.length by omega,zav,ZW (Nat.le_refl _)]
theorem qL (hr:RedOK m) {k:Nat} (t:List Int) (hk:k<m.length) (ht:t.length=m.length-1-k) (h0:0<=left (ent m) bound (k+1) t) {j:Nat} (hj:j<(zK (za m m.length) (zd m m.length) k (left (ent m) bound (k+1) t) t).toNat):
  0<=left (ent m) bound k ((zB (za m m.length) (zd m m.length) k (left (ent m) bound (k+1) t) t+(j:Int))::t):=by
 refine (Qj hr hk t ht h0 _).1 ?_;unfold zK at hj;omega
theorem zc7 (hr:RedOK m) (hb:0<=bound) (hb1:bound<1073741824) (k:Nat):∀t:List Int,k<m.length->t.length=m.length-1-k->0<=left (ent m) bound (k+1) t->
  ∀p∈z9 (za m m.length) (zd m m.length) m.length k (left (ent m) bound (k+1) t) t,0<=p.2/\1<=p.1/\p.1<=(m.length:Int):=by
 induction k with
 |zero=>
  intro t hk ht h0 p hp;simp only [z9,List.mem_singleton] at hp;subst hp;have :=QI (hr.num hb hb1) (Ql hr hb hb1 t 0 hk ht h0);simp only;omega
 |succ k ih=>
  intro t hk ht h0 p hp;simp only [z9,List.mem_cons,List.mem_flatMap,List.mem_range] at hp;rcases hp with rfl |⟨j,hj,hp⟩
  ·have :=QI (hr.num hb hb1) (Ql hr hb hb1 t (k+1) hk ht h0);simp only;omega
  ·have hk0:=qL hr t hk ht h0 hj;rw [qx hr hk bound t ht] at hp;exact ih _ (by omega) (by simp [ht];omega) hk0 p hp
theorem zf3 {ys:List (Int×Int)} (h:∀p∈ys,0<=p.2) (i:Nat):0<=zM ys i:=by
 induction ys with
 |nil=>simp [zM]
 |cons p ys ih=>
  have a:=ih (fun q hq=>h q (by simp [hq]));have b:=h p (by simp);simp only [zM];split<;>omega
theorem zlT (hr:RedOK m) (hb:0<=bound) (hb1:bound<1073741824) (k:Nat):∀t:List Int,k<m.length->t.length=m.length-1-k->0<=left (ent m) bound (k+1) t->
  zM (z9 (za m m.length) (zd m m.length) m.length k (left (ent m) bound (k+1) t) t) (m.length-1)=((qZ (za m m.length) (zd m m.length) false k (left (ent m) bound (k+1) t) false t).length:Int):=by
 induction k with
 |zero=>
  intro t hk ht h0;have :=QI (hr.num hb hb1) (Ql hr hb hb1 t 0 hk ht h0);simp only [z9,zM,qZ,zap,Bool.false_and,Bool.not_false,Bool.and_self,if_true,List.length_flatMap];rw [if_pos (by omega)];have e:jn (za m m.length) (zd m m.length) 0 (left (ent m) bound (0+1) t) false t=(zK (za m m.length) (zd m m.length) 0 (left (ent m) bound (0+1) t) t).toNat:=by simp [jn,Z6,zK]
  rw [e];simp only [List.length_cons,List.length_nil];rw [List.map_const',List.sum_replicate_nat];simp only [Nat.zero_add] at this;simp;omega
 |succ k ih=>
  intro t hk ht h0;have e:jn (za m m.length) (zd m m.length) (k+1) (left (ent m) bound (k+1+1) t) false t=(zK (za m m.length) (zd m m.length) (k+1) (left (ent m) bound (k+1+1) t) t).toNat:=by simp [jn,Z6,zK]
  have e2:Z6 (za m m.length) (zd m m.length) (k+1) (left (ent m) bound (k+1+1) t) false t=zB (za m m.length) (zd m m.length) (k+1) (left (ent m) bound (k+1+1) t) t:=by simp [Z6]
  simp only [z9,zM,qZ,Bool.false_and];rw [if_neg (by omega),zf1,e,e2];have key:∀l:List Nat,(∀j∈l,j<(zK (za m m.length) (zd m m.length) (k+1) (left (ent m) bound (k+1+1) t) t).toNat)->
    (l.map fun j:Nat=>zM (z9 (za m m.length) (zd m m.length) m.length k (Zq (za m m.length) (zd m m.length) (k+1) (left (ent m) bound (k+1+1) t) t (zB (za m m.length) (zd m m.length) (k+1) (left (ent m) bound (k+1+1) t) t+(j:Int))) ((zB (za m m.length) (zd m m.length) (k+1) (left (ent m) bound (k+1+1) t) t+(j:Int))::t)) (m.length-1)).sum=
    ((l.flatMap fun j:Nat=>qZ (za m m.length) (zd m m.length) false k (Zq (za m m.length) (zd m m.length) (k+1) (left (ent m) bound (k+1+1) t) t (zB (za m m.length) (zd m m.length) (k+1) (left (ent m) bound (k+1+1) t) t+(j:Int))) false ((zB (za m m.length) (zd m m.length) (k+1) (left (ent m) bound (k+1+1) t) t+(j:Int))::t)).length:Int):=by
   intro l;induction l with
   |nil=>intro _;rfl
   |cons j l ihl=>
    intro hl;have hk0:=qL hr t hk ht h0 (hl j (by simp));simp only [List.map_cons,List.sum_cons,List.flatMap_cons,List.length_append,Int.natCast_add];rw [ihl (fun x hx=>hl x (by simp [hx])),qx hr hk bound t ht,ih _ (by omega) (by simp [ht];omega) hk0]
  rw [key _ (fun j hj=>by simpa using hj)];omega
theorem zlU (hr:RedOK m) (hb:0<=bound) (hb1:bound<1073741824) (k:Nat):∀t:List Int,k<m.length->t.length=m.length-1-k->(∀x∈t,x=0)->∀i,m.length-1-k<=i->i<m.length->
  1<=zM (z9 (za m m.length) (zd m m.length) m.length k (left (ent m) bound (k+1) t) t) i:=by
 have zrb:∀(k:Nat) (t:List Int),k<m.length->t.length=m.length-1-k->(∀x∈t,x=0)->zB (za m m.length) (zd m m.length) k (left (ent m) bound (k+1) t) t<=0/\0<=Zf (za m m.length) (zd m m.length) k (left (ent m) bound (k+1) t) t:=fun k t hk ht hz=>
  (Qj hr hk t ht (zax hr hb (by omega) t hz) 0).2 (zax hr hb (by omega) (0::t) (fun x hx=>by
   rcases List.mem_cons.1 hx with rfl |hx
   ·rfl
   ·exact hz x hx))
 induction k with
 |zero=>
  intro t hk ht hz i h1 h2;have :=zrb 0 t hk ht hz;simp only [z9,zM];rw [if_pos (by omega)];unfold zK;omega
 |succ k ih=>
  intro t hk ht hz i h1 h2;have h0:=zax hr hb (by omega:k+1+1<=m.length) t hz;have hc:=zrb (k+1) t hk ht hz;have hok:=zc7 hr hb hb1 (k+1) t hk ht h0;simp only [z9,zM] at hok |-
  rw [zf1];have hnn:∀j∈List.range (zK (za m m.length) (zd m m.length) (k+1) (left (ent m) bound (k+1+1) t) t).toNat,0<=zM (z9 (za m m.length) (zd m m.length) m.length k (Zq (za m m.length) (zd m m.length) (k+1) (left (ent m) bound (k+1+1) t) t (zB (za m m.length) (zd m m.length) (k+1) (left (ent m) bound (k+1+1) t) t+(j:Int))) ((zB (za m m.length) (zd m m.length) (k+1) (left (ent m) bound (k+1+1) t) t+(j:Int))::t)) i:=fun j hj=>
   zf3 (fun p hp=>(hok p (List.mem_cons_of_mem _ (List.mem_flatMap.2 ⟨j,hj,hp⟩))).1) i
  by_cases e:i=m.length-1-(k+1)
  ·rw [if_pos (by omega)];have :=zf2 hnn;unfold zK at this |-
   omega
  ·rw [if_neg (by omega)];obtain ⟨j,hj⟩:∃j:Nat,zB (za m m.length) (zd m m.length) (k+1) (left (ent m) bound (k+1+1) t) t+(j:Int)=0:=⟨(-zB (za m m.length) (zd m m.length) (k+1) (left (ent m) bound (k+1+1) t) t).toNat,by omega⟩;have h3:=zlR hnn (a:=j) (by simp only [List.mem_range];unfold zK;omega);rw [hj,qx hr hk bound t ht] at h3;have h4:=ih (0::t) (by omega) (by simp [ht];omega) (fun x hx=>by
    rcases List.mem_cons.1 hx with rfl |hx
    ·rfl
    ·exact hz x hx) i (by omega) h2
   omega
theorem zlV (hr:RedOK m) (k:Nat):k<m.length->zo (ent m) k<=2^k*zo (ent m) (k+1):=by
 induction k with
 |zero=>
  intro hk;have :=Zv hr.pos (by omega:0+1<=m.length);show (1:Int)<=1*zo (ent m) (0+1);omega
 |succ k ih=>
  intro hk;have h1:=ih (by omega);have hL:=hr.lov k hk;have hs:=(of_decide_eq_true (hr.short k hk)).2.2 1 (by rw [ZD];omega) (by omega);have e1:ent (zh m k).2 1 0=E (ent m) k (k+1) k:=ZI (i:=1) (j:=0) (by omega) (by omega);have e2:ent (zh m k).2 0 0=E (ent m) k k k:=ZI (i:=0) (j:=0) (by omega) (by omega);rw [e1,e2] at hs;have p0:=Zv hr.pos (by omega:k<=m.length);have p1:0<E (ent m) k k k:=Zv hr.pos (by omega:k+1<=m.length)
  have p2:0<E (ent m) (k+1) (k+1) (k+1):=Zv hr.pos (by omega:k+1+1<=m.length);have h1':zo (ent m) k<=2^k*E (ent m) k k k:=h1;show E (ent m) k k k<=2^(k+1)*E (ent m) (k+1) (k+1) (k+1);obtain ⟨x,hx⟩:∃x,E (ent m) k k k=x:=⟨_,rfl⟩;obtain ⟨y,hy⟩:∃y,E (ent m) k (k+1) k=y:=⟨_,rfl⟩;obtain ⟨u,hu⟩:∃u,zo (ent m) k=u:=⟨_,rfl⟩;obtain ⟨v,hv⟩:∃v,E (ent m) (k+1) (k+1) (k+1)=v:=⟨_,rfl⟩;rw [hx,hy,hu,hv] at hL;rw [hx,hy] at hs
  rw [hx] at p1 h1' |-
  rw [hu] at p0 h1';rw [hv] at p2 |-
  have q:=Int.mul_nonneg (show 0<=x-2*y by omega) (show 0<=x+2*y by omega);have q2:(x-2*y)*(x+2*y)=x*x-4*(y*y):=by grind
  rw [q2] at q;have q3:x*x<=2*(u*v):=by grind
  have q4:u*v<=2^k*x*v:=Int.mul_le_mul_of_nonneg_right h1' (by omega);have q5:x*x<=x*(2^(k+1)*v):=by
   have :x*(2^(k+1)*v)=2*(2^k*x*v):=by rw [Int.pow_succ];grind
   omega
  exact Int.le_of_mul_le_mul_left q5 p1
theorem zlW (hr:RedOK m) (hb:0<=bound) (hb1:bound<1073741824) {k:Nat} (t:List Int) (hk:k<m.length) (ht:t.length=m.length-1-k) (h0:0<=left (ent m) bound (k+1) t) {c:Int} (hc:1<=c) (h:c<=zK (za m m.length) (zd m m.length) k (left (ent m) bound (k+1) t) t):(c-1)*(c-1)<=4*(2^k*bound):=by
 have hN:=hr.num hb hb1;have zqA:=Ql hr hb hb1 t k hk ht h0;obtain ⟨r0,_,r2⟩:=QX hN zqA;have r1:=zqA.r1;have hd:=Zv hr.pos (by omega:k+1<=m.length);have hd0:=Zv hr.pos (by omega:k<=m.length);unfold zK Zf zB at h;unfold Zj at r2;rw [ZW (by omega)] at h r1 r2;obtain ⟨d,hd'⟩:∃d,d=zo (ent m) (k+1):=⟨_,rfl⟩;obtain ⟨e,he⟩:∃e,e=zo (ent m) k:=⟨_,rfl⟩;obtain ⟨r,hr'⟩:∃r,r=vR (za m m.length) k (left (ent m) bound (k+1) t):=⟨_,rfl⟩
 obtain ⟨s,hs⟩:∃s,s=Zp (zd m m.length) k t:=⟨_,rfl⟩;obtain ⟨R,hR⟩:∃R,R=left (ent m) bound (k+1) t:=⟨_,rfl⟩;have hh:=zlV hr k hk;rw [<-hd',<-he] at hh;rw [<-hd'] at hd h r1;rw [<-he] at hd0 r2;rw [<-hR] at r0 r1 r2 h0 hr';rw [<-hR,<-hr',<-hs] at h;rw [<-hr'] at r0 r2;have a1:=Int.mul_ediv_self_le (x:=r+s) (k:=d) (by omega);have a2:=Int.mul_ediv_self_le (x:=r-s) (k:=d) (by omega);-- d (c - 1) <= 2 r
 have b1:d*(c-1)<=2*r:=by
  have :d*(c-1)<=d*((r+s) / d+(r-s) / d):=Int.mul_le_mul_of_nonneg_left (by omega) (by omega);rw [Int.mul_add] at this;omega
 have b0:0<=d*(c-1):=Int.mul_nonneg (by omega) (by omega);have b2:d*(c-1)*(d*(c-1))<=2*r*(2*r):=Int.mul_le_mul b1 b1 b0 (by omega);have b3:e*R<=e*(d*bound):=Int.mul_le_mul_of_nonneg_left r1 (by omega);have b4:e*(d*bound)<=2^k*d*(d*bound):=Int.mul_le_mul_of_nonneg_right hh (Int.mul_nonneg (by omega) hb);have b5:(d*d)*((c-1)*(c-1))<=(d*d)*(4*(2^k*bound)):=by
  have c1:d*(c-1)*(d*(c-1))=(d*d)*((c-1)*(c-1)):=by grind
  have c2:2^k*d*(d*bound)=(d*d)*(2^k*bound):=by grind
  have c3:2*r*(2*r)=4*(r*r):=by grind
  rw [c1,c3] at b2;rw [c2] at b4;have c4:(d*d)*(4*(2^k*bound))=4*((d*d)*(2^k*bound)):=by grind
  omega
 exact Int.le_of_mul_le_mul_left b5 (Int.mul_pos hd hd)
def Qb (b:Nat):Nat->Nat
 |0=>zk (4*b)+1
 |k+1=>(zk (4*(2^(k+1)*b))+1)*(1+Qb b k)
theorem zf4 (hr:RedOK m) {b:Nat} (hb1:(b:Int)<1073741824) {k:Nat} (t:List Int) (hk:k<m.length) (ht:t.length=m.length-1-k) (h0:0<=left (ent m) b (k+1) t):zK (za m m.length) (zd m m.length) k (left (ent m) b (k+1) t) t<=(zk (4*(2^k*b))+1:Nat):=by
 rcases Int.lt_or_le (zK (za m m.length) (zd m m.length) k (left (ent m) b (k+1) t) t) 1 with h |h
 ·omega
 ·have h1:=zlW hr (by omega) hb1 t hk ht h0 h (Int.le_refl _);obtain ⟨c,hc⟩:∃c:Nat,zK (za m m.length) (zd m m.length) k (left (ent m) b (k+1) t) t-1=(c:Int):=⟨(zK (za m m.length) (zd m m.length) k (left (ent m) b (k+1) t) t-1).toNat,by omega⟩;rw [hc] at h1;have h2:c*c<=4*(2^k*b):=by
   have :((c*c:Nat):Int)<=((4*(2^k*b):Nat):Int):=by simpa using h1
   exact Int.ofNat_le.1 this
  have h3:=(qJ (4*(2^k*b))).2;have h4:=zae (Nat.lt_of_le_of_lt h2 h3);omega
theorem zlX (hr:RedOK m) {b:Nat} (hb1:(b:Int)<1073741824) (k:Nat):∀t:List Int,k<m.length->t.length=m.length-1-k->0<=left (ent m) b (k+1) t->zA (z9 (za m m.length) (zd m m.length) m.length k (left (ent m) b (k+1) t) t)<=(Qb b k:Nat):=by
 induction k with
 |zero=>
  intro t hk ht h0;have :=zf4 hr hb1 t hk ht h0;simp only [z9,zA,Qb];simp only [Nat.pow_zero,Nat.one_mul] at this;omega
 |succ k ih=>
  intro t hk ht h0;have h1:=zf4 hr hb1 t hk ht h0;have h2:=QI (hr.num (by omega) hb1) (Ql hr (by omega) hb1 t (k+1) hk ht h0);simp only [z9,zA,Qb];rw [zf0];have h3:=zlQ (l:=List.range (zK (za m m.length) (zd m m.length) (k+1) (left (ent m) b (k+1+1) t) t).toNat) (B:=((Qb b k:Nat):Int))
   (g:=fun j=>zA (z9 (za m m.length) (zd m m.length) m.length k (Zq (za m m.length) (zd m m.length) (k+1) (left (ent m) b (k+1+1) t) t (zB (za m m.length) (zd m m.length) (k+1) (left (ent m) b (k+1+1) t) t+(j:Int))) ((zB (za m m.length) (zd m m.length) (k+1) (left (ent m) b (k+1+1) t) t+(j:Int))::t)))
   (fun j hj=>by
    have hk0:=qL hr t hk ht h0 (j:=j) (by simpa using hj);rw [qx hr hk b t ht];exact ih _ (by omega) (by simp [ht];omega) hk0)
  simp only [List.length_range] at h3;obtain ⟨c,hc⟩:∃c:Nat,zK (za m m.length) (zd m m.length) (k+1) (left (ent m) b (k+1+1) t) t=(c:Int):=⟨(zK (za m m.length) (zd m m.length) (k+1) (left (ent m) b (k+1+1) t) t).toNat,by omega⟩;rw [hc] at h1 h3 |-
  simp only [Int.toNat_natCast] at h3 |-
  have h5:c*(1+Qb b k)<=(zk (4*(2^(k+1)*b))+1)*(1+Qb b k):=Nat.mul_le_mul_right _ (by omega);have h6:((c*(1+Qb b k):Nat):Int)<=(((zk (4*(2^(k+1)*b))+1)*(1+Qb b k):Nat):Int):=Int.ofNat_le.2 h5;have h7:((c*(1+Qb b k):Nat):Int)=(c:Int)+(c:Int)*(Qb b k:Nat):=by rw [Nat.mul_add];simp
  omega
end
theorem zlY (n a:Nat) (c:Int) (h:a<n):((List.range n).map fun i=>if a=i then c else 0).sum=c:=by
 induction n with
 |zero=>omega
 |succ n ih=>
  rw [List.range_succ,List.map_append,List.sum_append];simp only [List.map_cons,List.map_nil,List.sum_cons,List.sum_nil];by_cases e:a=n
  ·have :∀l:List Nat,(∀i∈l,i<n)->(l.map fun i=>if a=i then c else 0).sum=0:=fun l hl=>by
    induction l with
    |nil=>rfl
    |cons i l ih2=>
     have :=hl i (by simp);simp only [List.map_cons,List.sum_cons];rw [ih2 (fun x hx=>hl x (by simp [hx])),if_neg (by omega)];rfl
   rw [this _ (fun i hi=>by simpa using hi),if_pos e];omega
  ·rw [ih (by omega),if_neg e];omega
theorem zf5 (l:List Nat) (f g:Nat->Int):(l.map fun i=>f i+g i).sum=(l.map f).sum+(l.map g).sum:=by
 induction l with
 |nil=>rfl
 |cons i l ih=>simp only [List.map_cons,List.sum_cons,ih];omega
theorem zc8 (n:Nat) (ys:List (Int×Int)) (h:∀p∈ys,1<=p.1/\p.1<=(n:Int)):((List.range n).map (zM ys)).sum=zA ys:=by
 induction ys with
 |nil=>
  have :∀l:List Nat,(l.map (zM [])).sum=0:=fun l=>by
   induction l with
   |nil=>rfl
   |cons i l ih=>rw [List.map_cons,List.sum_cons,ih];rfl
  exact this _
 |cons p ys ih=>
  have h1:=ih (fun q hq=>h q (by simp [hq]));have h2:=h p (by simp);have e:(zM (p::ys))=fun i=>(if (p.1-1).toNat=i then p.2 else 0)+zM ys i:=rfl
  rw [e,zf5,zlY n _ _ (by omega),h1];rfl
theorem zlZ {m:List (List Int)} (hr:RedOK m) {bound:Int} (hb:0<=bound) (h2:2<=m.length):
  (qZ (za m m.length) (zd m m.length) false (m.length-1) (left (ent m) bound (m.length-1+1) []) false []).length=2*(ql m bound false).length+1:=by
 have zqk:=ZF hr.small;have zqv:=Qa hr hb;have hmemF:∀x,x∈qZ (za m m.length) (zd m m.length) false (m.length-1) (left (ent m) bound (m.length-1+1) []) false []↔x.length=m.length/\zp m x<=bound:=fun x=>by
  rw [zbl hr hb false x (m.length-1) false [] (by omega) (by simp) zqv (by simp)];constructor
  ·rintro ⟨p,rfl,hp,a1,_,_⟩;simp only [List.append_nil] at a1 |-
   have hpl:p.length=m.length:=by omega
   rw [Qk zqk bound p hpl] at a1;exact ⟨hpl,by omega⟩
  ·rintro ⟨a1,a2⟩;rw [Qk zqk bound x a1];exact ⟨x,by simp,by omega,by omega,by simp,by simp⟩
 have hnd:=zfP hr hb false (m.length-1) false [] (by omega) (by simp) zqv (by simp);have zrd:=JK hr hb false;have zsD:=zfW hr hb false;obtain ⟨C,hC⟩:∃C,C=ql m bound false:=⟨_,rfl⟩;rw [<-hC] at zrd zsD |-
 have hz:ZZ (List.replicate m.length 0)->False:=fun h=>zaz h (fun y hy=>List.eq_of_mem_replicate hy)
 have zuz:((List.replicate m.length 0)::(C++C.map (List.map fun c=>-c))).Nodup:=by
  refine List.nodup_cons.2 ⟨fun hh=>?_,List.nodup_append.2 ⟨zsD,?_,?_⟩⟩
  ·rcases List.mem_append.1 hh with hh |hh
   ·exact hz ((zrd _).1 hh).2.1
   ·obtain ⟨y,hy,e⟩:=List.mem_map.1 hh;have hy2:=((zrd y).1 hy).2.1;exact zaz hy2 (fun c hc=>by
     have :-c∈List.replicate m.length (0:Int):=by rw [<-e];exact List.mem_map.2 ⟨c,hc,rfl⟩
     have :=List.eq_of_mem_replicate this;omega)
  ·unfold List.Nodup;rw [List.pairwise_map];refine List.Pairwise.imp ?_ zsD;intro a b hab e;have :=congrArg (List.map fun c=>-c) e;rw [JL,JL] at this;exact hab this
  ·intro a ha b hb' e;obtain ⟨y,hy,rfl⟩:=List.mem_map.1 hb';subst e;exact zc4 ((zrd y).1 hy).2.1 ((zrd _).1 ha).2.1
 have hp:=(List.perm_ext_iff_of_nodup hnd zuz).2 fun x=>by
  rw [hmemF,List.mem_cons,List.mem_append,zrd];constructor
  ·rintro ⟨a1,a2⟩;by_cases h0:∀y∈x,y=0
   ·exact .inl (List.eq_replicate_iff.2 ⟨a1,h0⟩)
   ·rcases zfT h0 with h |h
    ·exact .inr (.inl ⟨a1,h,a2,by simp⟩)
    ·refine .inr (.inr (List.mem_map.2 ⟨x.map fun c=>-c,(zrd _).2 ⟨by simpa using a1,h,by rw [zao];exact a2,by simp⟩,JL x⟩))
  ·rintro (rfl |⟨a1,_,a3,_⟩ |hx)
   ·refine ⟨by simp,?_⟩;have :=zax hr hb (by omega:0<=m.length) (List.replicate m.length 0) (fun y hy=>List.eq_of_mem_replicate hy);rw [Qk zqk bound _ (by simp)] at this;omega
   ·exact ⟨a1,a3⟩
   ·obtain ⟨y,hy,rfl⟩:=List.mem_map.1 hx;obtain ⟨b1,_,b3,_⟩:=(zrd y).1 hy;rw [zao];exact ⟨by simpa using b1,b3⟩
 have :=hp.length_eq;simp at this;omega
structure StepsOK (m:List (List Int)) (bound:Int) (st:List Int) (total:Int):Prop where
 spec:∀budget:Int,0<=budget->budget<=1000000->qf m bound budget=if total<=budget then (st,0) else ([],9)
 len:st.length=m.length
 sum:st.sum=total
 one:∀x∈st,1<=x
 last:JC st=2*(ql m bound false).length+1
theorem zl0 {h bound:Int} (r:Nat):(Jc h bound false r).length=r:=by
 unfold Jc;rw [List.length_map,List.filter_eq_self.2 (by simp),List.length_range]
theorem zl1 (l:List Int) (h:∀x∈l,1<=x):(l.length:Int)<=l.sum:=by
 induction l with
 |nil=>simp
 |cons a l ih=>
  have :=ih (fun x hx=>h x (by simp [hx]));have :=h a (by simp);simp only [List.sum_cons,List.length_cons];omega
def Z0 (m:List (List Int)) (b:Int):Int:=zA (ZT (za m m.length) (zd m m.length) m.length b)
def je (m:List (List Int)) (b:Int):List Int:=(List.range m.length).map (zM (ZT (za m m.length) (zd m m.length) m.length b))
theorem zbn {m:List (List Int)} (h:Ze m=true) {b:Nat} (hb1:(b:Int)<1073741824):StepsOK m b (je m b) (Z0 m b)/\(Z0 m b<=(Qb b (m.length-1):Nat)∨(m.length=1/\Z0 m b<=2*zk b+1)):=by
 have hr:=Zw h;have hl:=ZJ hr.small;have zuA:QY m b=false:=by simp [QY];omega
 obtain ⟨ys,hys⟩:∃ys,ys=ZT (za m m.length) (zd m m.length) m.length b:=⟨_,rfl⟩;have e1:Z0 m b=zA ys:=by rw [hys];rfl
 have e2:je m b=(List.range m.length).map (zM ys):=by rw [hys];rfl
 rw [e1,e2];have zti:(∀p∈ys,0<=p.2/\1<=p.1/\p.1<=(m.length:Int))->∀budget:Int,0<=budget->budget<=1000000->qf m b budget=if zA ys<=budget then ((List.range m.length).map (zM ys),0) else ([],9):=fun hok budget b0 b1=>by
  have zuB:QJ b budget=true:=by simp [QJ];omega
  unfold qf;rw [h,zuB,zuA];simp only [if_true,Bool.false_eq_true,if_false];unfold zal;rw [<-hys,zlS m.length ys budget _ hok b0 (by simp)];have e:((List.range m.length).map fun i=>(List.replicate m.length (0:Int)).getD i 0+zM ys i)=(List.range m.length).map (zM ys):=by
   refine List.map_congr_left fun i hi=>?_
   have hi':i<m.length:=by simpa using hi
   simp [List.getD,hi']
  rw [e];by_cases ht:zA ys<=budget
  ·rw [if_pos ht,if_pos ht]
  ·rw [if_neg ht,if_neg ht]
 have zqI:∀F:Nat->Int,JC ((List.range m.length).map F)=F (m.length-1):=fun F=>by
  have :m.length-1<m.length:=by omega
  simp [JC,List.getD,this]
 by_cases h1:m.length=1
 ·have hy:ys=[(1,2*((zk ((b:Int) / vD (za m m.length) 1).toNat:Nat):Int)+1)]:=by rw [hys];unfold ZT;rw [if_pos h1]
  have hok:∀p∈ys,0<=p.2/\1<=p.1/\p.1<=(m.length:Int):=fun p hp=>by
   rw [hy] at hp;obtain rfl:p=_:=by simpa using hp
   simp only;omega
  have hd:vD (za m m.length) 1=ent m 0 0:=by
   rw [ZW (by omega)];rfl
  have hd1:1<=ent m 0 0:=Z7 (m:=ent m) hr.pos (k:=0) (by omega);refine ⟨⟨zti hok,by simp,zc8 _ ys (fun p hp=>(hok p hp).2),fun x hx=>?_,?_⟩,.inr ⟨h1,?_⟩⟩
  ·obtain ⟨i,hi,rfl⟩:=List.mem_map.1 hx
   have hi':i=0:=by have :i<m.length:=by simpa using hi
                    omega
   subst hi';rw [hy];simp only [zM];rw [if_pos (by decide)];omega
  ·rw [zqI,hy,show m.length-1=0 by omega];simp only [zM];rw [if_pos (by decide)];have e:ql m b false=Jc (ent m 0 0) b false (zk ((b:Int) / ent m 0 0).toNat):=by unfold ql;rw [if_pos h1]
   rw [e,zl0,hd];omega
  ·rw [hy];simp only [zA];have q:((b:Int) / vD (za m m.length) 1).toNat<=b:=by
    rw [hd];have :=Int.ediv_le_self (a:=(b:Int)) (ent m 0 0) (by omega);omega
   have :zk ((b:Int) / vD (za m m.length) 1).toNat<=zk b:=by
    obtain ⟨s1,_⟩:=qJ ((b:Int) / vD (za m m.length) 1).toNat;obtain ⟨_,s2⟩:=qJ b;have :=zae (Nat.lt_of_le_of_lt (Nat.le_trans s1 q) s2);omega
   omega
 ·have hy:ys=z9 (za m m.length) (zd m m.length) m.length (m.length-1) (left (ent m) b (m.length-1+1) []) []:=by
   rw [hys];unfold ZT;rw [if_neg h1,zbm hr]
  have zqv:=Qa (bound:=(b:Int)) hr (by omega);have hok:=zc7 hr (by omega) hb1 (m.length-1) [] (by omega) (by simp) zqv;rw [<-hy] at hok;refine ⟨⟨zti hok,by simp,zc8 _ ys (fun p hp=>(hok p hp).2),fun x hx=>?_,?_⟩,.inl ?_⟩
  ·obtain ⟨i,hi,rfl⟩:=List.mem_map.1 hx;have hi':i<m.length:=by simpa using hi
   rw [hy];exact zlU hr (by omega) hb1 (m.length-1) [] (by omega) (by simp) (by simp) i (by omega) hi'
  ·rw [zqI,hy,zlT hr (by omega) hb1 (m.length-1) [] (by omega) (by simp) zqv,zlZ hr (by omega) (by omega)];omega
  ·rw [hy];exact zlX hr hb1 (m.length-1) [] (by omega) (by simp) zqv
theorem StepsOK.last_le {m:List (List Int)} {bound:Int} {st:List Int} {total:Int} (h:StepsOK m bound st total) (h1:1<=m.length):JC st+(m.length-1:Nat)<=total:=by
 have hl:=h.len;have hs:=h.sum;obtain ⟨p,c,rfl,hp⟩:=zaw (p:=st) (k:=m.length-1) (by omega);have e:JC (p++[c])=c:=by simp [JC]
 rw [e];have h2:=zl1 p (fun x hx=>h.one x (by simp [hx]));simp only [List.sum_append,List.sum_cons,List.sum_nil] at hs;omega
end Go.Proofs.YtjehjkipcaohpaaGreat
namespace Go.Proofs.YtjehjkipcaohpaaGreat
open Go.RowKit
def RowI (w:World) (b:Nat) (zs:List Int):Prop:=∃cs:List Value,VRow w b 148 cs/\zs.length*2<=cs.length/\VsOf w cs zs
section
variable {w w':World} {b:Nat} {zs:List Int}
theorem VsOf.map {vs:List Value} (h:VsOf w vs zs) (hk:∀{g:Bool} {B:Option Addr} {n c:Nat} {z:Int},IntV w g B n c z->IntV w' g B n c z):VsOf w' vs zs:=fun i z hz=>by
 obtain ⟨g,B,n,c,a1,a2,a3⟩:=h i z hz;exact ⟨g,B,n,c,a1,a2,hk a3⟩
theorem RowI.ext (h:RowI w b zs) (hx:Ext w w'):RowI w' b zs:=by
 obtain ⟨cs,h1,h2,h3⟩:=h;exact ⟨cs,h1.ext hx,h2,h3.map fun hz=>hz.ext hx⟩
theorem RowI.oth {T:TypeId} (h:RowI w b zs) (ho:Oth T w w') (h1:148≠T) (h2:244≠T):RowI w' b zs:=by
 obtain ⟨cs,a1,a2,a3⟩:=h;exact ⟨cs,ho _ _ _ _ h1 a1,a2,a3.map fun hz=>hz.oth ho h2⟩
theorem RowI.heap (h:RowI w b zs):∃cs,w.heap[b]? =some (.cells cs 148 (0,0)):=by
 obtain ⟨cs,h1,_⟩:=h;exact ⟨_,h1⟩
theorem RowI.lt (h:RowI w b zs):b<w.heap.size:=by
 obtain ⟨cs,h1⟩:=h.heap;exact zw h1
theorem RowI.far (h:RowI w b zs) {p:Addr} {cs:Array Value} {fr:Nat×Nat} (hp:w.heap[p.block]? =some (.cells cs 148 fr)) (hne:b≠p.block) (u:Value):RowI (w.setCell p u) b zs:=by
 obtain ⟨cs,h1,h2,h3⟩:=h;exact ⟨cs,h1.far hne u,h2,h3.map fun hz=>hz.setCell hp (by decide) u⟩
theorem RowI.far2 (h:RowI w b zs) {b' i j:Nat} {cs:Array Value} (hp:w.heap[b']? =some (.cells cs 148 (0,0))) (hne:b≠b') (u v:Value):RowI ((w.setCell ⟨b',i,none⟩ u).setCell ⟨b',j,none⟩ v) b zs:=
 (h.far (p:=⟨b',i,none⟩) hp hne u).far (p:=⟨b',j,none⟩) (Zd hp u) hne v
theorem RowI.intsV (h:RowI w b zs):IntsV w (some ⟨b,0,none⟩) zs:=by
 obtain ⟨cs,h1,h2,h3⟩:=h;refine ⟨cs.take (zs.length*2),by simp;omega,fun h0=>⟨b,0,cs.toArray,(0,0),rfl,h1,fun j u hu=>?_⟩,fun i z hz=>?_⟩
 ·rw [List.getElem?_take] at hu;split at hu
  ·simpa using hu
  ·cases hu
 ·have hi:i<zs.length:=(List.getElem?_eq_some_iff.1 hz).1;obtain ⟨g,B,n,c,a1,a2,a3⟩:=h3 i z hz;exact ⟨g,B,n,c,by rw [List.getElem?_take,if_pos (by omega)];exact a1,by rw [List.getElem?_take,if_pos (by omega)];exact a2,a3⟩
theorem RowI.cells (h:RowI w b zs) {j:Nat} {z:Int} (hz:zs[j]? =some z):∃g B n c,w.cell? ⟨b,j*2,none⟩=some (.bool g)/\w.cell? ⟨b,j*2+1,none⟩=some (.slice B n c)/\IntV w g B n c z/\w.frozen? ⟨b,j*2,none⟩=false/\w.frozen? ⟨b,j*2+1,none⟩=false:=by
 obtain ⟨cs,h1,h2,h3⟩:=h;obtain ⟨g,B,n,c,a1,a2,a3⟩:=h3 j z hz;exact ⟨g,B,n,c,h1.cell a1,h1.cell a2,a3,h1.frozen _,h1.frozen _⟩
theorem RowI.set (h:RowI w b zs) {j:Nat} (hj:j<zs.length) {g:Bool} {B:Option Addr} {n c:Nat} {z:Int} (hz:IntV w g B n c z):RowI ((w.setCell ⟨b,j*2,none⟩ (.bool g)).setCell ⟨b,j*2+1,none⟩ (.slice B n c)) b (zs.set j z):=by
 obtain ⟨cs,h1,h2,h3⟩:=h;have key:∀{s':Bool} {B':Option Addr} {n' c':Nat} {z:Int},IntV w s' B' n' c' z->IntV ((w.setCell ⟨b,j*2,none⟩ (.bool g)).setCell ⟨b,j*2+1,none⟩ (.slice B n c)) s' B' n' c' z:=fun hz'=>
  (hz'.setCell (p:=⟨b,j*2,none⟩) h1 (by decide) _).setCell (p:=⟨b,j*2+1,none⟩) (h1.set _ _) (by decide) _
 refine ⟨_,(h1.set (j*2) (.bool g)).set (j*2+1) (.slice B n c),by simp;omega,fun i y hy=>?_⟩;by_cases e:i=j
 ·subst e;rw [List.getElem?_set_self hj] at hy;injection hy with hy
  subst hy;refine ⟨g,B,n,c,?_,?_,key hz⟩
  ·rw [List.getElem?_set_ne (by omega),List.getElem?_set_self (by omega)]
  ·rw [List.getElem?_set_self (by rw [List.length_set];omega)]
 ·rw [List.getElem?_set_ne (by omega)] at hy;obtain ⟨g',B',n',c',a1,a2,a3⟩:=h3 i y hy;refine ⟨g',B',n',c',?_,?_,key a3⟩
  ·rw [List.getElem?_set_ne (by omega),List.getElem?_set_ne (by omega)];exact a1
  ·rw [List.getElem?_set_ne (by omega),List.getElem?_set_ne (by omega)];exact a2
end
def Zm (n:Nat) (h:Nat×Nat):Value:= .slice (some ⟨h.1,0,none⟩) n h.2
structure OwnI (w:World) (lo g n:Nat) (hs:List (Nat×Nat)) (a:List (List Int)):Prop where
 head:VRow w g 87 (hs.map (Zm n))
 glo:lo<=g
 len:hs.length=a.length
 dist:∀(i j:Nat) (p q:Nat×Nat),hs[i]? =some p->hs[j]? =some q->i≠j->p.1≠q.1
 new:∀h∈hs,lo<=h.1/\n<=h.2/\h.2<=9223372036854775807
 all:AllLen a n
 row:∀(i:Nat) (h:Nat×Nat) (r:List Int),hs[i]? =some h->a[i]? =some r->RowI w h.1 r
section
variable {w w':World} {lo g n:Nat} {hs:List (Nat×Nat)} {a:List (List Int)}
theorem OwnI.ext (h:OwnI w lo g n hs a) (hx:Ext w w'):OwnI w' lo g n hs a:=
 ⟨h.head.ext hx,h.glo,h.len,h.dist,h.new,h.all,fun i p r hp hr=>(h.row i p r hp hr).ext hx⟩
theorem OwnI.hdr (h:OwnI w lo g n hs a) {i:Nat} (hi:i<a.length):∃b c,hs[i]? =some (b,c)/\w.cell? ⟨g,i,none⟩=some (.slice (some ⟨b,0,none⟩) n c)/\w.frozen? ⟨g,i,none⟩=false/\n<=c/\c<=9223372036854775807/\b<w.heap.size/\g<w.heap.size:=by
 have hi':i<hs.length:=by rw [h.len];exact hi
 obtain ⟨⟨b,c⟩,hp⟩:∃p,hs[i]? =some p:=⟨_,List.getElem?_eq_getElem hi'⟩;obtain ⟨r,hr⟩:∃r,a[i]? =some r:=⟨_,List.getElem?_eq_getElem hi⟩;have hn:=h.new _ (List.mem_of_getElem? hp);exact ⟨b,c,hp,h.head.cell (by simp [hp,Zm]),h.head.frozen _,hn.2.1,hn.2.2,(h.row i _ r hp hr).lt,h.head.lt⟩
theorem zc9 {m:List (List Int)} {i j:Nat} {r:List Int} (hr:m[i]? =some r) (hj:j<r.length):r[j]? =some (ent m i j):=by
 unfold ent;simp [hr,hj]
theorem OwnI.entry (h:OwnI w lo g n hs a) {i j b c:Nat} (hp:hs[i]? =some (b,c)) (hi:i<a.length) (hj:j<n):∃s B k d,w.cell? ⟨b,j*2,none⟩=some (.bool s)/\w.cell? ⟨b,j*2+1,none⟩=some (.slice B k d)/\IntV w s B k d (ent a i j)/\w.frozen? ⟨b,j*2,none⟩=false/\w.frozen? ⟨b,j*2+1,none⟩=false:=by
 obtain ⟨r,hr⟩:∃r,a[i]? =some r:=⟨_,List.getElem?_eq_getElem hi⟩;exact (h.row i _ r hp hr).cells (zc9 hr (by rw [h.all r (List.mem_of_getElem? hr)];exact hj))
theorem OwnI.mat (h:OwnI w lo g n hs a):MatV w (some ⟨g,0,none⟩) a:=by
 refine ⟨hs.map (Zm n),by simp [h.len],h.head.arr,fun i r hr=>?_⟩;have hi:i<a.length:=(List.getElem?_eq_some_iff.1 hr).1;obtain ⟨⟨b,c⟩,hp⟩:∃p,hs[i]? =some p:=⟨_,List.getElem?_eq_getElem (by rw [h.len];exact hi)⟩;have hn:=h.new _ (List.mem_of_getElem? hp);have hl:=h.all r (List.mem_of_getElem? hr);refine ⟨some ⟨b,0,none⟩,c,by simp [hp,Zm,hl],(h.row i _ r hp hr).intsV,by rw [hl];exact hn.2.1,hn.2.2⟩
def zU (a:List (List Int)) (i j:Nat) (z:Int):List (List Int):=a.set i ((a.getD i []).set j z)
theorem zf6 {a:List (List Int)} {i j:Nat} {z:Int} (hi:i<a.length) (hj:j<(a.getD i []).length) (x y:Nat):ent (zU a i j z) x y=if x=i/\y=j then z else ent a x y:=by
 unfold ent zU;by_cases hx:x=i
 ·subst hx;by_cases hy:y=j
  ·subst hy;simp only [List.getD_eq_getElem?_getD] at hj |-
   rw [List.getElem?_set_self hi,Option.getD_some,List.getElem?_set_self hj];simp
  ·simp only [List.getD_eq_getElem?_getD];rw [List.getElem?_set_self hi,Option.getD_some,List.getElem?_set_ne (by omega)];simp [hy]
 ·simp only [List.getD_eq_getElem?_getD];rw [List.getElem?_set_ne (by omega)];simp [hx]
theorem jL (a:List (List Int)) (i j:Nat) (z:Int):(zU a i j z).length=a.length:=by simp [zU]
theorem OwnI.set (h:OwnI w lo g n hs a) {i j b c:Nat} (hp:hs[i]? =some (b,c)) (hi:i<a.length) (hj:j<n) {s:Bool} {B:Option Addr} {k d:Nat} {z:Int} (hz:IntV w s B k d z):
  OwnI ((w.setCell ⟨b,j*2,none⟩ (.bool s)).setCell ⟨b,j*2+1,none⟩ (.slice B k d)) lo g n hs (zU a i j z):=by
 obtain ⟨r,hr⟩:∃r,a[i]? =some r:=⟨_,List.getElem?_eq_getElem hi⟩;have hR:=h.row i _ r hp hr;have hl:=h.all r (List.mem_of_getElem? hr);obtain ⟨cs,hcs⟩:=hR.heap;have hgd:a.getD i []=r:=by simp [List.getD,hr]
 have hgb:g≠b:=fun e=>by
  have h1:=h.head;unfold VRow at h1;rw [e,hcs] at h1;injection h1 with h1
  injection h1 with _ h1
  exact absurd h1 (by decide)
 refine ⟨(h.head.far (p:=⟨b,j*2,none⟩) hgb _).far (p:=⟨b,j*2+1,none⟩) hgb _,h.glo,by rw [jL];exact h.len,h.dist,h.new,fun x hx=>?_,fun i' p' r' hp' hr'=>?_⟩
 ·rcases List.mem_or_eq_of_mem_set hx with hx |rfl
  ·exact h.all x hx
  ·rw [hgd,List.length_set,hl]
 ·by_cases e:i'=i
  ·subst e;rw [hp] at hp';injection hp' with hp'
   subst hp';unfold zU at hr';rw [List.getElem?_set_self hi,hgd] at hr';injection hr' with hr'
   subst hr';exact hR.set (by omega) hz
  ·unfold zU at hr';rw [List.getElem?_set_ne (by omega)] at hr';exact (h.row i' p' r' hp' hr').far2 hcs (h.dist _ _ _ _ hp' hp e) _ _
theorem OwnI.swap (h:OwnI w lo g n hs a) {p k:Nat} {hp hk:Nat×Nat} (h1:hs[p]? =some hp) (h2:hs[k]? =some hk) (hpa:p<a.length) (hka:k<a.length):
  OwnI ((w.setCell ⟨g,p,none⟩ (Zm n hk)).setCell ⟨g,k,none⟩ (Zm n hp)) lo g n ((hs.set p hk).set k hp) ((a.set p (a.getD k [])).set k (a.getD p [])):=by
 have hpl:p<hs.length:=(List.getElem?_eq_some_iff.1 h1).1;have hkl:k<hs.length:=(List.getElem?_eq_some_iff.1 h2).1;have e1:((w.setCell ⟨g,p,none⟩ (Zm n hk)).setCell ⟨g,k,none⟩ (Zm n hp)).heap[g]? =some (.cells ((((hs.set p hk).set k hp).map (Zm n)).toArray) 87 (0,0)):=by
  have :=(h.head.set p (Zm n hk)).set k (Zm n hp);unfold VRow at this;rw [this,List.map_set,List.map_set]
 have zqz:Oth 87 w ((w.setCell ⟨g,p,none⟩ (Zm n hk)).setCell ⟨g,k,none⟩ (Zm n hp)):=Oth.set2 h.head p k _ _;have zsE:∀i q,((hs.set p hk).set k hp)[i]? =some q->∃i',hs[i']? =some q/\((a.set p (a.getD k [])).set k (a.getD p []))[i]? =a[i']? :=fun i q hq=>by
  by_cases hik:i=k
  ·subst hik;rw [List.getElem?_set_self (by rw [List.length_set];exact hkl)] at hq;injection hq with hq
   subst hq;refine ⟨p,h1,?_⟩;rw [List.getElem?_set_self (by rw [List.length_set];exact hka),List.getD,List.getElem?_eq_getElem hpa];rfl
  ·rw [List.getElem?_set_ne (by omega)] at hq;by_cases hip:i=p
   ·subst hip;rw [List.getElem?_set_self hpl] at hq;injection hq with hq
    subst hq;refine ⟨k,h2,?_⟩;rw [List.getElem?_set_ne (by omega),List.getElem?_set_self hpa,List.getD,List.getElem?_eq_getElem hka];rfl
   ·rw [List.getElem?_set_ne (by omega)] at hq;refine ⟨i,hq,?_⟩;rw [List.getElem?_set_ne (by omega),List.getElem?_set_ne (by omega)]
 refine ⟨e1,h.glo,by simp [h.len],?_,fun q hq=>?_,fun r hr=>?_,fun i q r hq hr=>?_⟩
 ·have wh:∀i q,((hs.set p hk).set k hp)[i]? =some q->hs[(if i=k then p else if i=p then k else i)]? =some q:=fun i q hq=>by
   by_cases hik:i=k
   ·subst hik;rw [List.getElem?_set_self (by rw [List.length_set];exact hkl)] at hq;rw [if_pos rfl,h1];exact hq
   ·rw [List.getElem?_set_ne (by omega)] at hq;rw [if_neg hik];by_cases hip:i=p
    ·subst hip;rw [List.getElem?_set_self hpl] at hq;rw [if_pos rfl,h2];exact hq
    ·rw [List.getElem?_set_ne (by omega)] at hq;rw [if_neg hip];exact hq
  intro i j q1 q2 hq1 hq2 hij;refine h.dist _ _ _ _ (wh i q1 hq1) (wh j q2 hq2) ?_;split<;>split<;>(try split)<;>(try split)<;>omega
 ·obtain ⟨i,hi⟩:=List.getElem?_of_mem hq;obtain ⟨i',h3,_⟩:=zsE i q hi;exact h.new q (List.mem_of_getElem? h3)
 ·obtain ⟨i,hi⟩:=List.getElem?_of_mem hr;obtain ⟨q,hq⟩:∃q,((hs.set p hk).set k hp)[i]? =some q:=⟨_,List.getElem?_eq_getElem (by have :=(List.getElem?_eq_some_iff.1 hi).1;simp at this |-;rw [h.len];exact this)⟩;obtain ⟨i',_,h4⟩:=zsE i q hq;rw [h4] at hi;exact h.all r (List.mem_of_getElem? hi)
 ·obtain ⟨i',h3,h4⟩:=zsE i q hq;rw [h4] at hr;exact (h.row i' q r h3 hr).oth zqz (by decide) (by decide)
end
end Go.Proofs.YtjehjkipcaohpaaGreat
namespace Go.Proofs.YtjehjkipcaohpaaGreat
theorem JM (j:Nat):(4294967296:Int)^j=2^(32*j):=by
 rw [Int.pow_mul];rfl
theorem zf7 {l:List Int} {j:Nat} {x:Int} (hx:l[j]? =some x):val l=val (l.take j)+(4294967296:Int)^j*(x+4294967296*val (l.drop (j+1))):=by
 have hj:j<l.length:=(List.getElem?_eq_some_iff.1 hx).1;have h1:=zaU (l:=l) j;rw [List.length_take,Nat.min_eq_left (by omega)] at h1;have h2:l.drop j=x::l.drop (j+1):=by
  rw [List.drop_eq_getElem_cons hj,(List.getElem?_eq_some_iff.1 hx).2]
 rw [h2] at h1;exact h1
theorem zl2 {l:List Int} (hl:Limbs l) {j:Nat} {x:Int} (hx:l[j]? =some x) {k:Nat} (hk:k<32):(x / 2^k)%2=(val l / 2^(32*j+k))%2:=by
 have h1:=zf7 hx;have h2:=qD (hl.take j);have h3:=ZP (hl.take j);have hj:j<l.length:=(List.getElem?_eq_some_iff.1 hx).1;rw [List.length_take,Nat.min_eq_left (by omega)] at h3;have hp:=QE j;have e1:val l / (4294967296:Int)^j=x+4294967296*val (l.drop (j+1)):=by
  rw [h1,Int.add_mul_ediv_left _ _ (by omega),Int.ediv_eq_zero_of_lt h2 h3];omega
 have e2:val l / 2^(32*j+k)=val l / (4294967296:Int)^j / 2^k:=by
  rw [Int.pow_add,<-JM,Int.ediv_ediv_of_nonneg (by omega)]
 rw [e2,e1];have hk2:(0:Int)<2^k:=Int.pow_pos (by decide);obtain ⟨t,ht⟩:∃t,32=k+(t+1):=⟨31-k,by omega⟩;have e3:(4294967296:Int)=2^k*(2*2^t):=by
  have :(4294967296:Int)=2^32:=rfl;rw [this,ht,Int.pow_add,Int.pow_succ];grind
 have e4:x+4294967296*val (l.drop (j+1))=x+2^k*(2*(2^t*val (l.drop (j+1)))):=by rw [e3];grind
 rw [e4,Int.add_mul_ediv_left _ _ (by omega)];omega
theorem zda (a k:Nat) (h:a%2^(k+1)=0):a|||2^k=a+2^k:=by
 have h1:a=(a / 2^(k+1))<<<(k+1):=by
  rw [Nat.shiftLeft_eq,Nat.div_mul_cancel (Nat.dvd_of_mod_eq_zero h)]
 have h2:=Nat.shiftLeft_add_eq_or_of_lt (b:=2^k) (i:=k+1) (Nat.pow_lt_pow_right (by omega) (by omega)) (a / 2^(k+1));rw [<-h1] at h2;exact h2.symm
structure DivI (M N:Int) (i:Nat) (Q R:Int):Prop where
 eq:M / 2^i=Q*N+R
 r0:0<=R
 r1:R<N
 q0:0<=Q
theorem zf8 (M:Int) (i:Nat):M / 2^i=2*(M / 2^(i+1))+(M / 2^i)%2:=by
 have e:M / 2^(i+1)=M / 2^i / 2:=by rw [Int.pow_succ,Int.ediv_ediv_of_nonneg (Int.le_of_lt (Int.pow_pos (by decide)))]
 rw [e];omega
theorem DivI.low {M N:Int} {i:Nat} {Q R:Int} (h:DivI M N (i+1) Q R) (hlt:2*R+(M / 2^i)%2<N):DivI M N i (2*Q) (2*R+(M / 2^i)%2):=by
 have h1:=zf8 M i;have h2:=h.eq;have h3:=h.r0;have h4:=h.q0;refine ⟨?_,by omega,hlt,by omega⟩;rw [h1,h2];grind
theorem DivI.high {M N:Int} {i:Nat} {Q R:Int} (h:DivI M N (i+1) Q R) (hge:N<=2*R+(M / 2^i)%2):DivI M N i (2*Q+1) (2*R+(M / 2^i)%2-N):=by
 have h1:=zf8 M i;have h2:=h.eq;have h3:=h.r0;have h4:=h.q0;have h5:=h.r1;refine ⟨?_,by omega,by omega,by omega⟩;rw [h1,h2];grind
theorem DivI.start {M N:Int} {i:Nat} (h0:0<=M) (hM:M<2^i) (hN:0<N):DivI M N i 0 0:=
 ⟨by rw [Int.ediv_eq_zero_of_lt h0 hM];omega,by omega,hN,by omega⟩
theorem DivI.done {M N Q R:Int} (h:DivI M N 0 Q R):Q=M / N/\R=M%N:=by
 have h1:=h.eq;rw [Int.pow_zero,Int.ediv_one] at h1;have h2:=h.r0;have h3:=h.r1;have e:M=R+N*Q:=by rw [h1];grind
 constructor
 ·rw [e,Int.add_mul_ediv_left _ _ (by omega),Int.ediv_eq_zero_of_lt h2 h3];omega
 ·rw [e,Int.add_mul_emod_self_left,Int.emod_eq_of_lt h2 h3]
end Go.Proofs.YtjehjkipcaohpaaGreat

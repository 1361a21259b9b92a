/- Vm3 Vm4 Vm5 OwnM Dm -/
import Derived.Test.YtjehjkipcaohpaaGreatT10
set_option maxHeartbeats 8000000
set_option linter.unusedVariables false
set_option linter.unusedSimpArgs false
set_option linter.constructorNameAsVariable false
namespace Go.Proofs.YtjehjkipcaohpaaGreat
section
open La
theorem zf5:∀l m:List Int,zC l m=zC m l
 |[],[]=>rfl
 |[],_::_=>rfl
 |_::_,[]=>rfl
 |a::l,b::m=>by simp only [zC];rw [zf5 l m,Int.mul_comm]
theorem zlT {m:List (List Int)} {n i:Nat} (hn:AllLen m n) (hi:i<m.length) (x:List Int) (hx:x.length=n):zC (m.getD i []) x=ZB (ent m i) 0 x:=by
 have hl:(m.getD i []).length=n:=by
  have :m[i].length=n:=hn _ (List.getElem_mem _);simpa [List.getD,hi] using this
 exact zde _ x 0 _ (by omega) (fun j _=>by simp [ent])
theorem JX {m:List (List Int)} (hn:AllLen m m.length) (x:List Int) (hx:x.length=m.length):zu m x=qE (ent m) 0 x:=by
 unfold zu qE QX;rw [zf5];refine zde _ x 0 _ (by simp [qC,hx]) (fun i hi=>?_);have hi':i<m.length:=by omega
 have :(qC m x).getD i 0=zC (m.getD i []) x:=by simp [qC,hi']
 rw [this,zlT hn hi' x hx,Nat.zero_add];rfl
theorem Qr {m:List (List Int)} (hn:AllLen m m.length) (za:Int) (x:List Int) (hx:x.length=m.length):left (ent m) za 0 x=za-zu m x:=by
 unfold left;rw [JX hn x hx];show 1*za-_=_;omega
theorem zlU {h za:Int} (h1:1<=h) (hb:0<=za) (exact:Bool) (x:List Int):x∈Jn h za exact (zo (za / h).toNat)↔∃c:Int,x=[c]/\1<=c/\h*c*c<=za/\(exact=true->h*c*c=za):=by
 obtain ⟨h2,h3⟩:=zcL h1 hb;obtain ⟨r,hr⟩:∃r,r=zo (za / h).toNat:=⟨_,rfl⟩;rw [<-hr] at h2 h3 |-
 simp only [Jn,List.mem_map,List.mem_filter,List.mem_range];constructor
 ·rintro ⟨i,⟨hi,hp⟩,rfl⟩;refine ⟨(i:Int)+1,rfl,by omega,h2 _ (by omega) (by omega),fun he=>?_⟩;simpa [he] using hp
 ·rintro ⟨c,rfl,c1,c2,c3⟩;have hc:c<=r:=by
   rcases Int.lt_or_le (r:Int) c with hlt |hle
   ·have e1:h*((r:Int)+1)<=h*c:=Int.mul_le_mul_of_nonneg_left (by omega) (by omega);have e2:h*((r:Int)+1)*((r:Int)+1)<=h*c*c:=Int.mul_le_mul e1 (by omega) (by omega) (Int.mul_nonneg (by omega) (by omega));omega
   ·exact hle
  refine ⟨(c-1).toNat,⟨by omega,?_⟩,by congr 1;omega⟩;rw [show ((c-1).toNat:Int)+1=c by omega]
  cases exact with
  |false=>rfl
  |true=>simp [c3 rfl]
theorem JY {m:List (List Int)} (hr:RedOK m) {za:Int} (hb:0<=za) (exact:Bool) (x:List Int):x∈qv m za exact↔x.length=m.length/\Z6 x/\zu m x<=za/\(exact=true->zu m x=za):=by
 have zqe:=ZO hr.small;have hl:=ZR hr.small;unfold qv;split
 ·rename_i h1
  have h00:=hr.pos;have hd:1<=ent m 0 0:=by
   have :=qf (m:=ent m) hr.pos (k:=0) (by omega);exact this
  rw [zlU hd hb];have hn:∀c:Int,zu m [c]=ent m 0 0*c*c:=fun c=>by
   rw [JX zqe [c] (by simp [h1])];simp only [qE,QX,ZB,E];grind
  constructor
  ·rintro ⟨c,rfl,c1,c2,c3⟩;rw [hn];exact ⟨by simp [h1],.inr ⟨by simp,by omega⟩,c2,c3⟩
  ·rintro ⟨a1,a2,a3,a4⟩;obtain ⟨c,rfl⟩:∃c,x=[c]:=by
    match x,a1 with
    |[c],_=>exact ⟨c,rfl⟩
    |[],h=>simp at h;omega
    |_::_::_,h=>simp at h;omega
   rw [hn] at a3 a4;have :0<c:=by
    rcases a2 with h |⟨_,h⟩
    ·exact absurd h (by simp [Z6])
    ·exact h
   exact ⟨c,rfl,by omega,a3,a4⟩
 ·have e:vD (ze m m.length) m.length*za=left (ent m) za (m.length-1+1) []:=by
   rw [show m.length-1+1=m.length by omega,zaJ,Z3 Zr]
  rw [e,zbA hr hb exact x (m.length-1) true [] (by omega) (by simp) ?_ (by simp)]
  ·constructor
   ·rintro ⟨p,rfl,hp,a1,a2,a3⟩;simp only [List.append_nil] at a1 a2 |-
    have hpl:p.length=m.length:=by omega
    rw [Qr zqe za p hpl] at a1 a2;exact ⟨hpl,a3 rfl,by omega,fun h=>by have :=a2 h;omega⟩
   ·rintro ⟨a1,a2,a3,a4⟩;rw [Qr zqe za x a1];exact ⟨x,by simp,by omega,by omega,fun h=>by have :=a4 h;omega,fun _=>a2⟩
  ·rw [<-e];have :=Z3 (m:=m) (k:=m.length) Zr;rw [this];exact Int.mul_nonneg (Int.le_of_lt (ZE hr.pos Zr)) hb
theorem Qs {m:List (List Int)} (hr:RedOK m) {za:Int} (hb:0<=za) (hb1:za<1073741824) (t:List Int):∀k,k<m.length->t.length=m.length-1-k->0<=left (ent m) za (k+1) t->LevOK (ze m m.length) m.length za k (left (ent m) za (k+1) t) t:=by
 have zqo:=QU (ZO hr.small) (fun i j hi hj=>((of_decide_eq_true hr.small).2.2.2 i hi j hj).1);induction t with
 |nil=>
  intro k hk ht h0;have e:k+1=m.length:=by simp at ht;omega
  rw [e] at h0 |-
  refine ⟨hk,h0,?_,ht,by simp [z6]⟩;rw [zaJ,e,Z3 Zr];exact Int.le_refl _
 |cons c t ih=>
  intro k hk ht h0;simp only [List.length_cons] at ht;have h1:=zdd zqo (hr.pos.le (by omega:k+1+1<=m.length)) za c t h0;have h2:=ih (k+1) (by omega) (by omega) h1;have h3:=(Qq hr (by omega:k+1<m.length) t (by omega) h1 c).2 h0;have h4:=LevOK.next (hr.num hb hb1) h2 h3.1 h3.2;rwa [qH hr (by omega) za t (by omega)] at h4
theorem zlV {m:List (List Int)} (hr:RedOK m) (t:List Int):∀k,k+t.length<=m.length->0<=qE (ent m) k t:=by
 have zqo:=QU (ZO hr.small) (fun i j hi hj=>((of_decide_eq_true hr.small).2.2.2 i hi j hj).1);induction t with
 |nil=>intro k _;exact Int.le_refl _
 |cons c t ih=>
  intro k hk;simp only [List.length_cons] at hk;have h1:=ih (k+1) (by omega);have h2:=zdb zqo (hr.pos.le (by omega:k+1<=m.length)) c t;have h3:=ZE hr.pos (by omega:k<=m.length);have h4:=ZE hr.pos (by omega:k+1<=m.length);have h5:=Int.mul_nonneg (Int.le_of_lt h3) h1;have h6:=zf1 (lE (ent m) k (c::t));rcases Int.lt_or_le (qE (ent m) k (c::t)) 0 with h7 |h7
  ·have :=Int.mul_neg_of_pos_of_neg h4 h7;omega
  ·exact h7
theorem zf6 {m:List (List Int)} (hr:RedOK m) (x:List Int) (hx:x.length=m.length):0<=zu m x:=by
 rw [JX (ZO hr.small) x hx];exact zlV hr x 0 (by omega)
theorem zf7 {m:List (List Int)} (hr:RedOK m) {za:Int} (hb:0<=za) (hb1:za<1073741824) (x:List Int) (hx:x.length=m.length) (hn:zu m x<=za):z6 x<=1099511627776:=by
 have zqe:=ZO hr.small;have hl:=ZR hr.small;have zqo:=QU (ZO hr.small) (fun i j hi hj=>((of_decide_eq_true hr.small).2.2.2 i hi j hj).1);have h0:0<=left (ent m) za 0 x:=by rw [Qr zqe za x hx];omega
 cases x with
 |nil=>simp [z6]
 |cons c t=>
  simp only [List.length_cons] at hx;have h1:=zdd zqo (hr.pos.le (by omega:0+1<=m.length)) za c t h0;have h2:=Qs hr hb hb1 t 0 (by omega) (by omega) h1;have h3:=(Qq hr (by omega:0<m.length) t (by omega) h1 c).2 h0;have hN:=hr.num hb hb1;have h4:=Jh hN h2;have h5:=jx hN h2;have h6:=jc hN h2;simp only [z6];omega
theorem zlW {x:List Int} (h:z6 x<=1099511627776):Qm x=true:=by
 unfold Qm;rw [List.all_eq_true];intro y hy;obtain ⟨i,hi⟩:=List.getElem?_of_mem hy;have :=JO x i y hi;simp only [Bool.and_eq_true,decide_eq_true_eq];omega
theorem zlX {x:List Int} (h:zv x=0):∀y∈x,y=0:=by
 induction x with
 |nil=>simp
 |cons a x ih=>
  simp only [zv] at h;split at h
  ·rename_i ha
   intro y hy;rcases List.mem_cons.1 hy with rfl |hy
   ·exact ha
   ·exact ih h y hy
  ·omega
theorem zaN {x:List Int} (h:Z6 x):¬∀y∈x,y=0:=by
 induction x with
 |nil=>exact absurd h (by simp [Z6])
 |cons a x ih=>
  intro hz;rcases h with h |⟨_,h⟩
  ·exact ih h (fun y hy=>hz y (by simp [hy]))
  ·have :=hz a (by simp);omega
theorem zdh {x:List Int} (h:Z6 x):¬Z6 (x.map fun c=>-c):=by
 induction x with
 |nil=>exact absurd h (by simp [Z6])
 |cons a x ih=>
  rintro (h2 |⟨h2,h3⟩)
  ·rcases h with h |⟨h,_⟩
   ·exact ih h h2
   ·exact zaN h2 (fun y hy=>by
     obtain ⟨z,hz,rfl⟩:=List.mem_map.1 hy;have :=h z hz;omega)
  ·rcases h with h |⟨_,h⟩
   ·exact zaN h (fun y hy=>by
     have :=h2 (-y) (List.mem_map.2 ⟨y,hy,rfl⟩);omega)
   ·have h4:0< -a:=h3;omega
theorem zf8 {x:List Int} (h:¬∀y∈x,y=0):Z6 x∨Z6 (x.map fun c=>-c):=by
 induction x with
 |nil=>exact absurd (by simp) h
 |cons a x ih=>
  by_cases hx:∀y∈x,y=0
  ·have ha:a≠0:=fun ha=>h (fun y hy=>by
    rcases List.mem_cons.1 hy with rfl |hy
    ·exact ha
    ·exact hx y hy)
   rcases (by omega:0<a∨0< -a) with h1 |h1
   ·exact .inl (.inr ⟨hx,h1⟩)
   ·refine .inr (.inr ⟨fun y hy=>?_,h1⟩);obtain ⟨z,hz,rfl⟩:=List.mem_map.1 hy;have :=hx z hz;omega
  ·rcases ih hx with h1 |h1
   ·exact .inl (.inl h1)
   ·exact .inr (.inl h1)
theorem JZ (x:List Int):(x.map fun c=>-c).map (fun c=>-c)=x:=by
 induction x with
 |nil=>rfl
 |cons a x ih=>simp only [List.map_cons,ih,Int.neg_neg]
theorem zlY {x y:List Int} (hx:Z6 x) (hy:Z6 y) (h:zJ x=zJ y):x=y:=by
 unfold zJ at h;split at h<;>split at h
 ·have :=congrArg (List.map fun c=>-c) h;rwa [JZ,JZ] at this
 ·rw [<-h] at hy;exact absurd hy (zdh hx)
 ·rw [h] at hx;exact absurd hx (zdh hy)
 ·exact h
theorem zf9 (x:List Int):zv (x.map fun c=>-c)=-zv x:=by
 induction x with
 |nil=>rfl
 |cons a x ih=>
  simp only [List.map_cons,zv,ih];by_cases h:a=0
  ·simp [h]
  ·rw [if_neg h,if_neg (by omega)]
theorem zga (x:List Int) (h:zv x≠0):0<zv (zJ x):=by
 unfold zJ;split
 ·rw [zf9];omega
 ·omega
theorem zgb {m:List (List Int)} (hr:RedOK m) {za:Int} (hb:0<=za) (exact:Bool):(qv m za exact).Nodup:=by
 have hl:=ZR hr.small;unfold qv;split
 ·unfold Jn;unfold List.Nodup;rw [List.pairwise_map];refine List.Pairwise.imp ?_ (List.Pairwise.filter _ List.nodup_range);intro a b hab e;injection e with e1
  omega
 ·have e:vD (ze m m.length) m.length*za=left (ent m) za (m.length-1+1) []:=by
   rw [show m.length-1+1=m.length by omega,zaJ,Z3 Zr]
  rw [e];refine zf4 hr hb exact (m.length-1) true [] (by omega) (by simp) ?_ (by simp);rw [<-e,Z3 Zr];exact Int.mul_nonneg (Int.le_of_lt (ZE hr.pos Zr)) hb
theorem zgc {m:List (List Int)} (hr:RedOK m) {za:Int} (hb:0<=za) (exact:Bool):((qv m za exact).map zJ).Nodup:=by
 unfold List.Nodup;rw [List.pairwise_map];refine List.Pairwise.imp_of_mem ?_ (zgb hr hb exact);intro a b ha hb' hab e;exact hab (zlY ((JY hr hb exact a).1 ha).2.1 ((JY hr hb exact b).1 hb').2.1 e)
theorem zgd {m:List (List Int)} (h:Zp m=true):RedM m:=by
 have hr:=ZF h;refine ⟨h,ZO hr.small,fun r hr' x hx=>?_,(ZR hr.small).2⟩;obtain ⟨i,j,hi,hj,rfl⟩:=zfO (ZO hr.small) hr' hx;have :=((of_decide_eq_true hr.small).2.2.2 i hi j hj).2;omega
structure VecList (m:List (List Int)) (za:Int) (exact:Bool) (L:List (List Int)):Prop where
 sorted:L.Pairwise (fun x y=>qu (zu m x) (zu m y) x y<0)
 mem:∀x,x∈L↔x.length=m.length/\0<zv x/\zu m x<=za/\(exact=true->zu m x=za)
theorem zge (m:List (List Int)) (x y:List Int) (h:qu (zu m x) (zu m y) x y<0):¬qu (zu m y) (zu m x) y x<0:=by
 rw [zcG] at h |-
 rw [jO];omega
theorem VecList.nodup {m:List (List Int)} {za:Int} {exact:Bool} {L:List (List Int)} (h:VecList m za exact L):L.Nodup:=by
 refine List.Pairwise.imp ?_ h.sorted;intro a b hab e;subst e;exact zge m a a hab hab
theorem VecList.unique {m:List (List Int)} {za:Int} {exact:Bool} {L T:List (List Int)} (h:VecList m za exact L) (h':VecList m za exact T):L=T:=by
 have hp:L.Perm T:=(List.perm_ext_iff_of_nodup h.nodup h'.nodup).2 fun x=>(h.mem x).trans (h'.mem x).symm
 exact List.Perm.eq_of_pairwise (fun a b _ _ h1 h2=>absurd h2 (zge m a b h1)) h.sorted h'.sorted hp
def zE:List (Int×Int)->Int
 |[]=>0
 |p::ys=>p.2+zE ys
def zR:List (Int×Int)->Nat->Int
 |[],_=>0
 |p::ys,i=>(if (p.1-1).toNat=i then p.2 else 0)+zR ys i
theorem zdi (a b:List (Int×Int)):zE (a++b)=zE a+zE b:=by
 induction a with
 |nil=>simp [zE]
 |cons p a ih=>simp only [List.cons_append,zE,ih];omega
theorem zdj (a b:List (Int×Int)) (i:Nat):zR (a++b) i=zR a i+zR b i:=by
 induction a with
 |nil=>simp [zR]
 |cons p a ih=>simp only [List.cons_append,zR,ih];omega
theorem zgf (F:Nat->List (Int×Int)) (l:List Nat):zE (l.flatMap F)=(l.map fun j=>zE (F j)).sum:=by
 induction l with
 |nil=>rfl
 |cons j l ih=>simp only [List.flatMap_cons,zdi,ih,List.map_cons,List.sum_cons]
theorem zgg (F:Nat->List (Int×Int)) (i:Nat) (l:List Nat):zR (l.flatMap F) i=(l.map fun j=>zR (F j) i).sum:=by
 induction l with
 |nil=>rfl
 |cons j l ih=>simp only [List.flatMap_cons,zdj,ih,List.map_cons,List.sum_cons]
theorem zlZ {l:List Nat} {g:Nat->Int} {B:Int} (h:∀j∈l,g j<=B):(l.map g).sum<=(l.length:Int)*B:=by
 induction l with
 |nil=>simp
 |cons j l ih=>
  have h1:=ih (fun x hx=>h x (by simp [hx]));have h2:=h j (by simp);simp only [List.map_cons,List.sum_cons,List.length_cons,Int.natCast_add,Int.add_mul];omega
theorem zgh {l:List Nat} {g:Nat->Int} (h:∀j∈l,0<=g j):0<=(l.map g).sum:=by
 induction l with
 |nil=>simp
 |cons j l ih=>
  have h1:=ih (fun x hx=>h x (by simp [hx]));have h2:=h j (by simp);simp only [List.map_cons,List.sum_cons];omega
theorem zl0 {l:List Nat} {g:Nat->Int} (h:∀j∈l,0<=g j) {a:Nat} (ha:a∈l):g a<=(l.map g).sum:=by
 induction l with
 |nil=>simp at ha
 |cons j l ih=>
  have h0:=zgh (fun x hx=>h x (List.mem_cons_of_mem j hx));have h2:=h j (by simp);simp only [List.map_cons,List.sum_cons];rcases List.mem_cons.1 ha with rfl |ha
  ·omega
  ·have :=ih (fun x hx=>h x (by simp [hx])) ha;omega
theorem zl1 (n:Nat) (ys:List (Int×Int)):∀(left:Int) (st:List Int),(∀p∈ys,0<=p.2/\1<=p.1/\p.1<=n)->0<=left->st.length=n->
  QA ys left st=if zE ys<=left then some (left-zE ys,(List.range n).map fun i=>st.getD i 0+zR ys i) else none:=by
 induction ys with
 |nil=>
  intro left st _ h0 hl;rw [if_pos (show zE []<=left from h0)];have e1:left-zE []=left:=by simp only [zE];omega
  have e2:(List.range n).map (fun i=>st.getD i 0+zR [] i)=st:=by
   refine List.ext_getElem (by simp [hl]) fun i h1 h2=>?_
   simp [List.getD,h2,zR]
  rw [e1,e2];rfl
 |cons p ys ih=>
  obtain ⟨len,cnt⟩:=p;intro left st hp h0 hl;have hp0:=hp (len,cnt) (by simp);simp only at hp0;have zqM:0<=zE ys:=by
   have :∀l:List (Int×Int),(∀p∈l,0<=p.2)->0<=zE l:=fun l hh=>by
    induction l with
    |nil=>simp [zE]
    |cons q l ih2=>have a:=ih2 (fun p hp=>hh p (by simp [hp]));have b:=hh q (by simp);simp only [zE];omega
   exact this ys (fun p hp'=>(hp p (by simp [hp'])).1)
  have htc:zE ((len,cnt)::ys)=cnt+zE ys:=rfl;simp only [QA];split
  ·rw [if_neg (by omega)]
  ·rw [ih (left-cnt) _ (fun p hp'=>hp p (by simp [hp'])) (by omega) (by simpa using hl)];by_cases h:zE ys<=left-cnt
   ·rw [if_pos h,if_pos (by omega)];have e1:left-cnt-zE ys=left-zE ((len,cnt)::ys):=by omega
    rw [e1];congr 2
    ·refine List.map_congr_left fun i hi=>?_
     have hi':i<n:=by simpa using hi
     simp only [zR,List.getD_eq_getElem?_getD,List.getElem?_set];by_cases e:(len-1).toNat=i
     ·rw [if_pos e,if_pos (by omega)];simp [e];omega
     ·rw [if_neg e,if_neg e];omega
   ·rw [if_neg h,if_neg (by omega)]
section
variable {m:List (List Int)} {za:Int}
theorem Qi (hr:RedOK m) (hb:0<=za):0<=left (ent m) za (m.length-1+1) []:=by
 have hl:=ZR hr.small;rw [show m.length-1+1=m.length by omega,zaJ];exact Int.mul_nonneg (Int.le_of_lt (ZE hr.pos Zr)) hb
theorem zbB (hr:RedOK m):vD (ze m m.length) m.length*za=left (ent m) za (m.length-1+1) []:=by
 have hl:=ZR hr.small;rw [show m.length-1+1=m.length by omega,zaJ,Z3 Zr]
theorem qU (hr:RedOK m) {k:Nat} (t:List Int) (hk:k<m.length) (ht:t.length=m.length-1-k) (h0:0<=left (ent m) za (k+1) t) {j:Nat} (hj:j<(zP (ze m m.length) (zh m m.length) k (left (ent m) za (k+1) t) t).toNat):
  0<=left (ent m) za k ((zG (ze m m.length) (zh m m.length) k (left (ent m) za (k+1) t) t+(j:Int))::t):=by
 refine (Qq hr hk t ht h0 _).1 ?_;unfold zP at hj;omega
theorem zdk (hr:RedOK m) (hb:0<=za) (hb1:za<1073741824) (k:Nat):∀t:List Int,k<m.length->t.length=m.length-1-k->0<=left (ent m) za (k+1) t->
  ∀p∈Zf (ze m m.length) (zh m m.length) m.length k (left (ent m) za (k+1) t) t,0<=p.2/\1<=p.1/\p.1<=(m.length:Int):=by
 induction k with
 |zero=>
  intro t hk ht h0 p hp;simp only [Zf,List.mem_singleton] at hp;subst hp;have :=QQ (hr.num hb hb1) (Qs hr hb hb1 t 0 hk ht h0);simp only;omega
 |succ k ih=>
  intro t hk ht h0 p hp;simp only [Zf,List.mem_cons,List.mem_flatMap,List.mem_range] at hp;rcases hp with rfl |⟨j,hj,hp⟩
  ·have :=QQ (hr.num hb hb1) (Qs hr hb hb1 t (k+1) hk ht h0);simp only;omega
  ·have hk0:=qU hr t hk ht h0 hj;rw [qH hr hk za t ht] at hp;exact ih _ (by omega) (by simp [ht];omega) hk0 p hp
theorem zgi {ys:List (Int×Int)} (h:∀p∈ys,0<=p.2) (i:Nat):0<=zR ys i:=by
 induction ys with
 |nil=>simp [zR]
 |cons p ys ih=>
  have a:=ih (fun q hq=>h q (by simp [hq]));have b:=h p (by simp);simp only [zR];split<;>omega
theorem zl2 (hr:RedOK m) (hb:0<=za) (hb1:za<1073741824) (k:Nat):∀t:List Int,k<m.length->t.length=m.length-1-k->0<=left (ent m) za (k+1) t->
  zR (Zf (ze m m.length) (zh m m.length) m.length k (left (ent m) za (k+1) t) t) (m.length-1)=((Qh (ze m m.length) (zh m m.length) false k (left (ent m) za (k+1) t) false t).length:Int):=by
 induction k with
 |zero=>
  intro t hk ht h0;have :=QQ (hr.num hb hb1) (Qs hr hb hb1 t 0 hk ht h0);simp only [Zf,zR,Qh,zaD,Bool.false_and,Bool.not_false,Bool.and_self,if_true,List.length_flatMap];rw [if_pos (by omega)];have e:jy (ze m m.length) (zh m m.length) 0 (left (ent m) za (0+1) t) false t=(zP (ze m m.length) (zh m m.length) 0 (left (ent m) za (0+1) t) t).toNat:=by simp [jy,qc,zP]
  rw [e];simp only [List.length_cons,List.length_nil];rw [List.map_const',List.sum_replicate_nat];simp only [Nat.zero_add] at this;simp;omega
 |succ k ih=>
  intro t hk ht h0;have e:jy (ze m m.length) (zh m m.length) (k+1) (left (ent m) za (k+1+1) t) false t=(zP (ze m m.length) (zh m m.length) (k+1) (left (ent m) za (k+1+1) t) t).toNat:=by simp [jy,qc,zP]
  have e2:qc (ze m m.length) (zh m m.length) (k+1) (left (ent m) za (k+1+1) t) false t=zG (ze m m.length) (zh m m.length) (k+1) (left (ent m) za (k+1+1) t) t:=by simp [qc]
  simp only [Zf,zR,Qh,Bool.false_and];rw [if_neg (by omega),zgg,e,e2];have key:∀l:List Nat,(∀j∈l,j<(zP (ze m m.length) (zh m m.length) (k+1) (left (ent m) za (k+1+1) t) t).toNat)->
    (l.map fun j:Nat=>zR (Zf (ze m m.length) (zh m m.length) m.length k (ZA (ze m m.length) (zh m m.length) (k+1) (left (ent m) za (k+1+1) t) t (zG (ze m m.length) (zh m m.length) (k+1) (left (ent m) za (k+1+1) t) t+(j:Int))) ((zG (ze m m.length) (zh m m.length) (k+1) (left (ent m) za (k+1+1) t) t+(j:Int))::t)) (m.length-1)).sum=
    ((l.flatMap fun j:Nat=>Qh (ze m m.length) (zh m m.length) false k (ZA (ze m m.length) (zh m m.length) (k+1) (left (ent m) za (k+1+1) t) t (zG (ze m m.length) (zh m m.length) (k+1) (left (ent m) za (k+1+1) t) t+(j:Int))) false ((zG (ze m m.length) (zh m m.length) (k+1) (left (ent m) za (k+1+1) t) t+(j:Int))::t)).length:Int):=by
   intro l;induction l with
   |nil=>intro _;rfl
   |cons j l ihl=>
    intro hl;have hk0:=qU hr t hk ht h0 (hl j (by simp));simp only [List.map_cons,List.sum_cons,List.flatMap_cons,List.length_append,Int.natCast_add];rw [ihl (fun x hx=>hl x (by simp [hx])),qH hr hk za t ht,ih _ (by omega) (by simp [ht];omega) hk0]
  rw [key _ (fun j hj=>by simpa using hj)];omega
theorem zl3 (hr:RedOK m) (hb:0<=za) (hb1:za<1073741824) (k:Nat):∀t:List Int,k<m.length->t.length=m.length-1-k->(∀x∈t,x=0)->∀i,m.length-1-k<=i->i<m.length->
  1<=zR (Zf (ze m m.length) (zh m m.length) m.length k (left (ent m) za (k+1) t) t) i:=by
 have zq9:∀(k:Nat) (t:List Int),k<m.length->t.length=m.length-1-k->(∀x∈t,x=0)->zG (ze m m.length) (zh m m.length) k (left (ent m) za (k+1) t) t<=0/\0<=Zq (ze m m.length) (zh m m.length) k (left (ent m) za (k+1) t) t:=fun k t hk ht hz=>
  (Qq hr hk t ht (zaL hr hb (by omega) t hz) 0).2 (zaL hr hb (by omega) (0::t) (fun x hx=>by
   rcases List.mem_cons.1 hx with rfl |hx
   ·rfl
   ·exact hz x hx))
 induction k with
 |zero=>
  intro t hk ht hz i h1 h2;have :=zq9 0 t hk ht hz;simp only [Zf,zR];rw [if_pos (by omega)];unfold zP;omega
 |succ k ih=>
  intro t hk ht hz i h1 h2;have h0:=zaL hr hb (by omega:k+1+1<=m.length) t hz;have hc:=zq9 (k+1) t hk ht hz;have hok:=zdk hr hb hb1 (k+1) t hk ht h0;simp only [Zf,zR] at hok |-
  rw [zgg];have hnn:∀j∈List.range (zP (ze m m.length) (zh m m.length) (k+1) (left (ent m) za (k+1+1) t) t).toNat,0<=zR (Zf (ze m m.length) (zh m m.length) m.length k (ZA (ze m m.length) (zh m m.length) (k+1) (left (ent m) za (k+1+1) t) t (zG (ze m m.length) (zh m m.length) (k+1) (left (ent m) za (k+1+1) t) t+(j:Int))) ((zG (ze m m.length) (zh m m.length) (k+1) (left (ent m) za (k+1+1) t) t+(j:Int))::t)) i:=fun j hj=>
   zgi (fun p hp=>(hok p (List.mem_cons_of_mem _ (List.mem_flatMap.2 ⟨j,hj,hp⟩))).1) i
  by_cases e:i=m.length-1-(k+1)
  ·rw [if_pos (by omega)];have :=zgh hnn;unfold zP at this |-
   omega
  ·rw [if_neg (by omega)];obtain ⟨j,hj⟩:∃j:Nat,zG (ze m m.length) (zh m m.length) (k+1) (left (ent m) za (k+1+1) t) t+(j:Int)=0:=⟨(-zG (ze m m.length) (zh m m.length) (k+1) (left (ent m) za (k+1+1) t) t).toNat,by omega⟩;have h3:=zl0 hnn (a:=j) (by simp only [List.mem_range];unfold zP;omega);rw [hj,qH hr hk za t ht] at h3;have h4:=ih (0::t) (by omega) (by simp [ht];omega) (fun x hx=>by
    rcases List.mem_cons.1 hx with rfl |hx
    ·rfl
    ·exact hz x hx) i (by omega) h2
   omega
theorem zl4 (hr:RedOK m) (k:Nat):k<m.length->zt (ent m) k<=2^k*zt (ent m) (k+1):=by
 induction k with
 |zero=>
  intro hk;have :=ZE hr.pos (by omega:0+1<=m.length);show (1:Int)<=1*zt (ent m) (0+1);omega
 |succ k ih=>
  intro hk;have h1:=ih (by omega);have hL:=hr.lov k hk;have hs:=(of_decide_eq_true (hr.short k hk)).2.2 1 (by rw [ZM];omega) (by omega);have e1:ent (zl m k).2 1 0=E (ent m) k (k+1) k:=ZQ (i:=1) (j:=0) (by omega) (by omega);have e2:ent (zl m k).2 0 0=E (ent m) k k k:=ZQ (i:=0) (j:=0) (by omega) (by omega);rw [e1,e2] at hs;have p0:=ZE hr.pos (by omega:k<=m.length);have p1:0<E (ent m) k k k:=ZE hr.pos (by omega:k+1<=m.length)
  have p2:0<E (ent m) (k+1) (k+1) (k+1):=ZE hr.pos (by omega:k+1+1<=m.length);have h1':zt (ent m) k<=2^k*E (ent m) k k k:=h1;show E (ent m) k k k<=2^(k+1)*E (ent m) (k+1) (k+1) (k+1);obtain ⟨x,hx⟩:∃x,E (ent m) k k k=x:=⟨_,rfl⟩;obtain ⟨y,hy⟩:∃y,E (ent m) k (k+1) k=y:=⟨_,rfl⟩;obtain ⟨u,hu⟩:∃u,zt (ent m) k=u:=⟨_,rfl⟩;obtain ⟨v,hv⟩:∃v,E (ent m) (k+1) (k+1) (k+1)=v:=⟨_,rfl⟩;rw [hx,hy,hu,hv] at hL;rw [hx,hy] at hs
  rw [hx] at p1 h1' |-
  rw [hu] at p0 h1';rw [hv] at p2 |-
  have q:=Int.mul_nonneg (show 0<=x-2*y by omega) (show 0<=x+2*y by omega);have q2:(x-2*y)*(x+2*y)=x*x-4*(y*y):=by grind
  rw [q2] at q;have q3:x*x<=2*(u*v):=by grind
  have q4:u*v<=2^k*x*v:=Int.mul_le_mul_of_nonneg_right h1' (by omega);have q5:x*x<=x*(2^(k+1)*v):=by
   have :x*(2^(k+1)*v)=2*(2^k*x*v):=by rw [Int.pow_succ];grind
   omega
  exact Int.le_of_mul_le_mul_left q5 p1
theorem zl5 (hr:RedOK m) (hb:0<=za) (hb1:za<1073741824) {k:Nat} (t:List Int) (hk:k<m.length) (ht:t.length=m.length-1-k) (h0:0<=left (ent m) za (k+1) t) {c:Int} (hc:1<=c) (h:c<=zP (ze m m.length) (zh m m.length) k (left (ent m) za (k+1) t) t):(c-1)*(c-1)<=4*(2^k*za):=by
 have hN:=hr.num hb hb1;have zqw:=Qs hr hb hb1 t k hk ht h0;obtain ⟨r0,_,r2⟩:=jc hN zqw;have r1:=zqw.r1;have hd:=ZE hr.pos (by omega:k+1<=m.length);have hd0:=ZE hr.pos (by omega:k<=m.length);unfold zP Zq zG at h;unfold Zu at r2;rw [Z3 (by omega)] at h r1 r2;obtain ⟨d,hd'⟩:∃d,d=zt (ent m) (k+1):=⟨_,rfl⟩;obtain ⟨e,he⟩:∃e,e=zt (ent m) k:=⟨_,rfl⟩;obtain ⟨r,hr'⟩:∃r,r=vR (ze m m.length) k (left (ent m) za (k+1) t):=⟨_,rfl⟩
 obtain ⟨s,hs⟩:∃s,s=Zz (zh m m.length) k t:=⟨_,rfl⟩;obtain ⟨R,hR⟩:∃R,R=left (ent m) za (k+1) t:=⟨_,rfl⟩;have hh:=zl4 hr k hk;rw [<-hd',<-he] at hh;rw [<-hd'] at hd h r1;rw [<-he] at hd0 r2;rw [<-hR] at r0 r1 r2 h0 hr';rw [<-hR,<-hr',<-hs] at h;rw [<-hr'] at r0 r2;have a1:=Int.mul_ediv_self_le (x:=r+s) (k:=d) (by omega);have a2:=Int.mul_ediv_self_le (x:=r-s) (k:=d) (by omega);-- d (c - 1) <= 2 r
 have b1:d*(c-1)<=2*r:=by
  have :d*(c-1)<=d*((r+s) / d+(r-s) / d):=Int.mul_le_mul_of_nonneg_left (by omega) (by omega);rw [Int.mul_add] at this;omega
 have b0:0<=d*(c-1):=Int.mul_nonneg (by omega) (by omega);have b2:d*(c-1)*(d*(c-1))<=2*r*(2*r):=Int.mul_le_mul b1 b1 b0 (by omega);have b3:e*R<=e*(d*za):=Int.mul_le_mul_of_nonneg_left r1 (by omega);have b4:e*(d*za)<=2^k*d*(d*za):=Int.mul_le_mul_of_nonneg_right hh (Int.mul_nonneg (by omega) hb);have b5:(d*d)*((c-1)*(c-1))<=(d*d)*(4*(2^k*za)):=by
  have c1:d*(c-1)*(d*(c-1))=(d*d)*((c-1)*(c-1)):=by grind
  have c2:2^k*d*(d*za)=(d*d)*(2^k*za):=by grind
  have c3:2*r*(2*r)=4*(r*r):=by grind
  rw [c1,c3] at b2;rw [c2] at b4;have c4:(d*d)*(4*(2^k*za))=4*((d*d)*(2^k*za)):=by grind
  omega
 exact Int.le_of_mul_le_mul_left b5 (Int.mul_pos hd hd)
def Qj (b:Nat):Nat->Nat
 |0=>zo (4*b)+1
 |k+1=>(zo (4*(2^(k+1)*b))+1)*(1+Qj b k)
theorem zgj (hr:RedOK m) {b:Nat} (hb1:(b:Int)<1073741824) {k:Nat} (t:List Int) (hk:k<m.length) (ht:t.length=m.length-1-k) (h0:0<=left (ent m) b (k+1) t):zP (ze m m.length) (zh m m.length) k (left (ent m) b (k+1) t) t<=(zo (4*(2^k*b))+1:Nat):=by
 rcases Int.lt_or_le (zP (ze m m.length) (zh m m.length) k (left (ent m) b (k+1) t) t) 1 with h |h
 ·omega
 ·have h1:=zl5 hr (by omega) hb1 t hk ht h0 h (Int.le_refl _);obtain ⟨c,hc⟩:∃c:Nat,zP (ze m m.length) (zh m m.length) k (left (ent m) b (k+1) t) t-1=(c:Int):=⟨(zP (ze m m.length) (zh m m.length) k (left (ent m) b (k+1) t) t-1).toNat,by omega⟩;rw [hc] at h1;have h2:c*c<=4*(2^k*b):=by
   have :((c*c:Nat):Int)<=((4*(2^k*b):Nat):Int):=by simpa using h1
   exact Int.ofNat_le.1 this
  have h3:=(qS (4*(2^k*b))).2;have h4:=zat (Nat.lt_of_le_of_lt h2 h3);omega
theorem zl6 (hr:RedOK m) {b:Nat} (hb1:(b:Int)<1073741824) (k:Nat):∀t:List Int,k<m.length->t.length=m.length-1-k->0<=left (ent m) b (k+1) t->zE (Zf (ze m m.length) (zh m m.length) m.length k (left (ent m) b (k+1) t) t)<=(Qj b k:Nat):=by
 induction k with
 |zero=>
  intro t hk ht h0;have :=zgj hr hb1 t hk ht h0;simp only [Zf,zE,Qj];simp only [Nat.pow_zero,Nat.one_mul] at this;omega
 |succ k ih=>
  intro t hk ht h0;have h1:=zgj hr hb1 t hk ht h0;have h2:=QQ (hr.num (by omega) hb1) (Qs hr (by omega) hb1 t (k+1) hk ht h0);simp only [Zf,zE,Qj];rw [zgf];have h3:=zlZ (l:=List.range (zP (ze m m.length) (zh m m.length) (k+1) (left (ent m) b (k+1+1) t) t).toNat) (B:=((Qj b k:Nat):Int))
   (g:=fun j=>zE (Zf (ze m m.length) (zh m m.length) m.length k (ZA (ze m m.length) (zh m m.length) (k+1) (left (ent m) b (k+1+1) t) t (zG (ze m m.length) (zh m m.length) (k+1) (left (ent m) b (k+1+1) t) t+(j:Int))) ((zG (ze m m.length) (zh m m.length) (k+1) (left (ent m) b (k+1+1) t) t+(j:Int))::t)))
   (fun j hj=>by
    have hk0:=qU hr t hk ht h0 (j:=j) (by simpa using hj);rw [qH hr hk b t ht];exact ih _ (by omega) (by simp [ht];omega) hk0)
  simp only [List.length_range] at h3;obtain ⟨c,hc⟩:∃c:Nat,zP (ze m m.length) (zh m m.length) (k+1) (left (ent m) b (k+1+1) t) t=(c:Int):=⟨(zP (ze m m.length) (zh m m.length) (k+1) (left (ent m) b (k+1+1) t) t).toNat,by omega⟩;rw [hc] at h1 h3 |-
  simp only [Int.toNat_natCast] at h3 |-
  have h5:c*(1+Qj b k)<=(zo (4*(2^(k+1)*b))+1)*(1+Qj b k):=Nat.mul_le_mul_right _ (by omega);have h6:((c*(1+Qj b k):Nat):Int)<=(((zo (4*(2^(k+1)*b))+1)*(1+Qj b k):Nat):Int):=Int.ofNat_le.2 h5;have h7:((c*(1+Qj b k):Nat):Int)=(c:Int)+(c:Int)*(Qj b k:Nat):=by rw [Nat.mul_add];simp
  omega
end
theorem zl7 (n a:Nat) (c:Int) (h:a<n):((List.range n).map fun i=>if a=i then c else 0).sum=c:=by
 induction n with
 |zero=>omega
 |succ n ih=>
  rw [List.range_succ,List.map_append,List.sum_append];simp only [List.map_cons,List.map_nil,List.sum_cons,List.sum_nil];by_cases e:a=n
  ·have :∀l:List Nat,(∀i∈l,i<n)->(l.map fun i=>if a=i then c else 0).sum=0:=fun l hl=>by
    induction l with
    |nil=>rfl
    |cons i l ih2=>
     have :=hl i (by simp);simp only [List.map_cons,List.sum_cons];rw [ih2 (fun x hx=>hl x (by simp [hx])),if_neg (by omega)];rfl
   rw [this _ (fun i hi=>by simpa using hi),if_pos e];omega
  ·rw [ih (by omega),if_neg e];omega
theorem zgk (l:List Nat) (f g:Nat->Int):(l.map fun i=>f i+g i).sum=(l.map f).sum+(l.map g).sum:=by
 induction l with
 |nil=>rfl
 |cons i l ih=>simp only [List.map_cons,List.sum_cons,ih];omega
theorem zdl (n:Nat) (ys:List (Int×Int)) (h:∀p∈ys,1<=p.1/\p.1<=(n:Int)):((List.range n).map (zR ys)).sum=zE ys:=by
 induction ys with
 |nil=>
  have :∀l:List Nat,(l.map (zR [])).sum=0:=fun l=>by
   induction l with
   |nil=>rfl
   |cons i l ih=>rw [List.map_cons,List.sum_cons,ih];rfl
  exact this _
 |cons p ys ih=>
  have h1:=ih (fun q hq=>h q (by simp [hq]));have h2:=h p (by simp);have e:(zR (p::ys))=fun i=>(if (p.1-1).toNat=i then p.2 else 0)+zR ys i:=rfl
  rw [e,zgk,zl7 n _ _ (by omega),h1];rfl
theorem zl8 {m:List (List Int)} (hr:RedOK m) {za:Int} (hb:0<=za) (h2:2<=m.length):
  (Qh (ze m m.length) (zh m m.length) false (m.length-1) (left (ent m) za (m.length-1+1) []) false []).length=2*(qv m za false).length+1:=by
 have zqe:=ZO hr.small;have zqp:=Qi hr hb;have hmemF:∀x,x∈Qh (ze m m.length) (zh m m.length) false (m.length-1) (left (ent m) za (m.length-1+1) []) false []↔x.length=m.length/\zu m x<=za:=fun x=>by
  rw [zbA hr hb false x (m.length-1) false [] (by omega) (by simp) zqp (by simp)];constructor
  ·rintro ⟨p,rfl,hp,a1,_,_⟩;simp only [List.append_nil] at a1 |-
   have hpl:p.length=m.length:=by omega
   rw [Qr zqe za p hpl] at a1;exact ⟨hpl,by omega⟩
  ·rintro ⟨a1,a2⟩;rw [Qr zqe za x a1];exact ⟨x,by simp,by omega,by omega,by simp,by simp⟩
 have hnd:=zf4 hr hb false (m.length-1) false [] (by omega) (by simp) zqp (by simp);have zrb:=JY hr hb false;have zsE:=zgb hr hb false;obtain ⟨C,hC⟩:∃C,C=qv m za false:=⟨_,rfl⟩;rw [<-hC] at zrb zsE |-
 have hz:Z6 (List.replicate m.length 0)->False:=fun h=>zaN h (fun y hy=>List.eq_of_mem_replicate hy)
 have zuv:((List.replicate m.length 0)::(C++C.map (List.map fun c=>-c))).Nodup:=by
  refine List.nodup_cons.2 ⟨fun hh=>?_,List.nodup_append.2 ⟨zsE,?_,?_⟩⟩
  ·rcases List.mem_append.1 hh with hh |hh
   ·exact hz ((zrb _).1 hh).2.1
   ·obtain ⟨y,hy,e⟩:=List.mem_map.1 hh;have hy2:=((zrb y).1 hy).2.1;exact zaN hy2 (fun c hc=>by
     have :-c∈List.replicate m.length (0:Int):=by rw [<-e];exact List.mem_map.2 ⟨c,hc,rfl⟩
     have :=List.eq_of_mem_replicate this;omega)
  ·unfold List.Nodup;rw [List.pairwise_map];refine List.Pairwise.imp ?_ zsE;intro a b hab e;have :=congrArg (List.map fun c=>-c) e;rw [JZ,JZ] at this;exact hab this
  ·intro a ha b hb' e;obtain ⟨y,hy,rfl⟩:=List.mem_map.1 hb';subst e;exact zdh ((zrb y).1 hy).2.1 ((zrb _).1 ha).2.1
 have hp:=(List.perm_ext_iff_of_nodup hnd zuv).2 fun x=>by
  rw [hmemF,List.mem_cons,List.mem_append,zrb];constructor
  ·rintro ⟨a1,a2⟩;by_cases h0:∀y∈x,y=0
   ·exact .inl (List.eq_replicate_iff.2 ⟨a1,h0⟩)
   ·rcases zf8 h0 with h |h
    ·exact .inr (.inl ⟨a1,h,a2,by simp⟩)
    ·refine .inr (.inr (List.mem_map.2 ⟨x.map fun c=>-c,(zrb _).2 ⟨by simpa using a1,h,by rw [zaC];exact a2,by simp⟩,JZ x⟩))
  ·rintro (rfl |⟨a1,_,a3,_⟩ |hx)
   ·refine ⟨by simp,?_⟩;have :=zaL hr hb (by omega:0<=m.length) (List.replicate m.length 0) (fun y hy=>List.eq_of_mem_replicate hy);rw [Qr zqe za _ (by simp)] at this;omega
   ·exact ⟨a1,a3⟩
   ·obtain ⟨y,hy,rfl⟩:=List.mem_map.1 hx;obtain ⟨b1,_,b3,_⟩:=(zrb y).1 hy;rw [zaC];exact ⟨by simpa using b1,b3⟩
 have :=hp.length_eq;simp at this;omega
structure StepsOK (m:List (List Int)) (za:Int) (st:List Int) (total:Int):Prop where
 spec:∀budget:Int,0<=budget->budget<=1000000->qn m za budget=if total<=budget then (st,0) else ([],9)
 len:st.length=m.length
 sum:st.sum=total
 one:∀x∈st,1<=x
 zc:JQ st=2*(qv m za false).length+1
theorem zl9 {h za:Int} (r:Nat):(Jn h za false r).length=r:=by
 unfold Jn;rw [List.length_map,List.filter_eq_self.2 (by simp),List.length_range]
theorem zma (l:List Int) (h:∀x∈l,1<=x):(l.length:Int)<=l.sum:=by
 induction l with
 |nil=>simp
 |cons a l ih=>
  have :=ih (fun x hx=>h x (by simp [hx]));have :=h a (by simp);simp only [List.sum_cons,List.length_cons];omega
def Z7 (m:List (List Int)) (b:Int):Int:=zE (ZZ (ze m m.length) (zh m m.length) m.length b)
def jo (m:List (List Int)) (b:Int):List Int:=(List.range m.length).map (zR (ZZ (ze m m.length) (zh m m.length) m.length b))
theorem zbC {m:List (List Int)} (h:Zp m=true) {b:Nat} (hb1:(b:Int)<1073741824):StepsOK m b (jo m b) (Z7 m b)/\(Z7 m b<=(Qj b (m.length-1):Nat)∨(m.length=1/\Z7 m b<=2*zo b+1)):=by
 have hr:=ZF h;have hl:=ZR hr.small;have zuw:jd m b=false:=by simp [jd];omega
 obtain ⟨ys,hys⟩:∃ys,ys=ZZ (ze m m.length) (zh m m.length) m.length b:=⟨_,rfl⟩;have e1:Z7 m b=zE ys:=by rw [hys];rfl
 have e2:jo m b=(List.range m.length).map (zR ys):=by rw [hys];rfl
 rw [e1,e2];have ztl:(∀p∈ys,0<=p.2/\1<=p.1/\p.1<=(m.length:Int))->∀budget:Int,0<=budget->budget<=1000000->qn m b budget=if zE ys<=budget then ((List.range m.length).map (zR ys),0) else ([],9):=fun hok budget b0 b1=>by
  have zux:QR b budget=true:=by simp [QR];omega
  unfold qn;rw [h,zux,zuw];simp only [if_true,Bool.false_eq_true,if_false];unfold zaz;rw [<-hys,zl1 m.length ys budget _ hok b0 (by simp)];have e:((List.range m.length).map fun i=>(List.replicate m.length (0:Int)).getD i 0+zR ys i)=(List.range m.length).map (zR ys):=by
   refine List.map_congr_left fun i hi=>?_
   have hi':i<m.length:=by simpa using hi
   simp [List.getD,hi']
  rw [e];by_cases ht:zE ys<=budget
  ·rw [if_pos ht,if_pos ht]
  ·rw [if_neg ht,if_neg ht]
 have zqD:∀F:Nat->Int,JQ ((List.range m.length).map F)=F (m.length-1):=fun F=>by
  have :m.length-1<m.length:=by omega
  simp [JQ,List.getD,this]
 by_cases h1:m.length=1
 ·have hy:ys=[(1,2*((zo ((b:Int) / vD (ze m m.length) 1).toNat:Nat):Int)+1)]:=by rw [hys];unfold ZZ;rw [if_pos h1]
  have hok:∀p∈ys,0<=p.2/\1<=p.1/\p.1<=(m.length:Int):=fun p hp=>by
   rw [hy] at hp;obtain rfl:p=_:=by simpa using hp
   simp only;omega
  have hd:vD (ze m m.length) 1=ent m 0 0:=by
   rw [Z3 (by omega)];rfl
  have hd1:1<=ent m 0 0:=qf (m:=ent m) hr.pos (k:=0) (by omega);refine ⟨⟨ztl hok,by simp,zdl _ ys (fun p hp=>(hok p hp).2),fun x hx=>?_,?_⟩,.inr ⟨h1,?_⟩⟩
  ·obtain ⟨i,hi,rfl⟩:=List.mem_map.1 hx
   have hi':i=0:=by have :i<m.length:=by simpa using hi
                    omega
   subst hi';rw [hy];simp only [zR];rw [if_pos (by decide)];omega
  ·rw [zqD,hy,show m.length-1=0 by omega];simp only [zR];rw [if_pos (by decide)];have e:qv m b false=Jn (ent m 0 0) b false (zo ((b:Int) / ent m 0 0).toNat):=by unfold qv;rw [if_pos h1]
   rw [e,zl9,hd];omega
  ·rw [hy];simp only [zE];have q:((b:Int) / vD (ze m m.length) 1).toNat<=b:=by
    rw [hd];have :=Int.ediv_le_self (a:=(b:Int)) (ent m 0 0) (by omega);omega
   have :zo ((b:Int) / vD (ze m m.length) 1).toNat<=zo b:=by
    obtain ⟨s1,_⟩:=qS ((b:Int) / vD (ze m m.length) 1).toNat;obtain ⟨_,s2⟩:=qS b;have :=zat (Nat.lt_of_le_of_lt (Nat.le_trans s1 q) s2);omega
   omega
 ·have hy:ys=Zf (ze m m.length) (zh m m.length) m.length (m.length-1) (left (ent m) b (m.length-1+1) []) []:=by
   rw [hys];unfold ZZ;rw [if_neg h1,zbB hr]
  have zqp:=Qi (za:=(b:Int)) hr (by omega);have hok:=zdk hr (by omega) hb1 (m.length-1) [] (by omega) (by simp) zqp;rw [<-hy] at hok;refine ⟨⟨ztl hok,by simp,zdl _ ys (fun p hp=>(hok p hp).2),fun x hx=>?_,?_⟩,.inl ?_⟩
  ·obtain ⟨i,hi,rfl⟩:=List.mem_map.1 hx;have hi':i<m.length:=by simpa using hi
   rw [hy];exact zl3 hr (by omega) hb1 (m.length-1) [] (by omega) (by simp) (by simp) i (by omega) hi'
  ·rw [zqD,hy,zl2 hr (by omega) hb1 (m.length-1) [] (by omega) (by simp) zqp,zl8 hr (by omega) (by omega)];omega
  ·rw [hy];exact zl6 hr hb1 (m.length-1) [] (by omega) (by simp) zqp
theorem StepsOK.last_le {m:List (List Int)} {za:Int} {st:List Int} {total:Int} (h:StepsOK m za st total) (h1:1<=m.length):JQ st+(m.length-1:Nat)<=total:=by
 have hl:=h.len;have hs:=h.sum;obtain ⟨p,c,rfl,hp⟩:=zaK (p:=st) (k:=m.length-1) (by omega);have e:JQ (p++[c])=c:=by simp [JQ]
 rw [e];have h2:=zma p (fun x hx=>h.one x (by simp [hx]));simp only [List.sum_append,List.sum_cons,List.sum_nil] at hs;omega
end
section
open Go.RowKit
def RowI (w:World) (b:Nat) (zs:List Int):Prop:=∃cs:List Value,VRow w b 148 cs/\zs.length*2<=cs.length/\VsOf w cs zs
section
variable {w w':World} {b:Nat} {zs:List Int}
theorem VsOf.map {vs:List Value} (h:VsOf w vs zs) (hk:∀{g:Bool} {B:Option Addr} {n c:Nat} {z:Int},IntV w g B n c z->IntV w' g B n c z):VsOf w' vs zs:=fun i z hz=>by
 obtain ⟨g,B,n,c,a1,a2,a3⟩:=h i z hz;exact ⟨g,B,n,c,a1,a2,hk a3⟩
theorem RowI.ext (h:RowI w b zs) (hx:Ext w w'):RowI w' b zs:=by
 obtain ⟨cs,h1,h2,h3⟩:=h;exact ⟨cs,h1.ext hx,h2,h3.map fun hz=>hz.ext hx⟩
theorem RowI.oth {T:TypeId} (h:RowI w b zs) (ho:Oth T w w') (h1:148≠T) (h2:244≠T):RowI w' b zs:=by
 obtain ⟨cs,a1,a2,a3⟩:=h;exact ⟨cs,ho _ _ _ _ h1 a1,a2,a3.map fun hz=>hz.oth ho h2⟩
theorem RowI.heap (h:RowI w b zs):∃cs,w.heap[b]? =some (.cells cs 148 (0,0)):=by
 obtain ⟨cs,h1,_⟩:=h;exact ⟨_,h1⟩
theorem RowI.lt (h:RowI w b zs):b<w.heap.size:=by
 obtain ⟨cs,h1⟩:=h.heap;exact zA h1
theorem RowI.far (h:RowI w b zs) {p:Addr} {cs:Array Value} {fr:Nat×Nat} (hp:w.heap[p.block]? =some (.cells cs 148 fr)) (hne:b≠p.block) (u:Value):RowI (w.setCell p u) b zs:=by
 obtain ⟨cs,h1,h2,h3⟩:=h;exact ⟨cs,h1.far hne u,h2,h3.map fun hz=>hz.setCell hp (by decide) u⟩
theorem RowI.far2 (h:RowI w b zs) {b' i j:Nat} {cs:Array Value} (hp:w.heap[b']? =some (.cells cs 148 (0,0))) (hne:b≠b') (u v:Value):RowI ((w.setCell ⟨b',i,none⟩ u).setCell ⟨b',j,none⟩ v) b zs:=
 (h.far (p:=⟨b',i,none⟩) hp hne u).far (p:=⟨b',j,none⟩) (Zo hp u) hne v
theorem RowI.intsV (h:RowI w b zs):IntsV w (some ⟨b,0,none⟩) zs:=by
 obtain ⟨cs,h1,h2,h3⟩:=h;refine ⟨cs.take (zs.length*2),by simp;omega,fun h0=>⟨b,0,cs.toArray,(0,0),rfl,h1,fun j u hu=>?_⟩,fun i z hz=>?_⟩
 ·rw [List.getElem?_take] at hu;split at hu
  ·simpa using hu
  ·cases hu
 ·have hi:i<zs.length:=(Zg.1 hz).1;obtain ⟨g,B,n,c,a1,a2,a3⟩:=h3 i z hz;exact ⟨g,B,n,c,by rw [List.getElem?_take,if_pos (by omega)];exact a1,by rw [List.getElem?_take,if_pos (by omega)];exact a2,a3⟩
theorem RowI.cells (h:RowI w b zs) {j:Nat} {z:Int} (hz:zs[j]? =some z):∃g B n c,w.cell? ⟨b,j*2,none⟩=some (.bool g)/\w.cell? ⟨b,j*2+1,none⟩=some (.slice B n c)/\IntV w g B n c z/\w.frozen? ⟨b,j*2,none⟩=false/\w.frozen? ⟨b,j*2+1,none⟩=false:=by
 obtain ⟨cs,h1,h2,h3⟩:=h;obtain ⟨g,B,n,c,a1,a2,a3⟩:=h3 j z hz;exact ⟨g,B,n,c,h1.cell a1,h1.cell a2,a3,h1.frozen _,h1.frozen _⟩
theorem RowI.set (h:RowI w b zs) {j:Nat} (hj:j<zs.length) {g:Bool} {B:Option Addr} {n c:Nat} {z:Int} (hz:IntV w g B n c z):RowI ((w.setCell ⟨b,j*2,none⟩ (.bool g)).setCell ⟨b,j*2+1,none⟩ (.slice B n c)) b (zs.set j z):=by
 obtain ⟨cs,h1,h2,h3⟩:=h;have key:∀{s':Bool} {B':Option Addr} {n' c':Nat} {z:Int},IntV w s' B' n' c' z->IntV ((w.setCell ⟨b,j*2,none⟩ (.bool g)).setCell ⟨b,j*2+1,none⟩ (.slice B n c)) s' B' n' c' z:=fun hz'=>
  (hz'.setCell (p:=⟨b,j*2,none⟩) h1 (by decide) _).setCell (p:=⟨b,j*2+1,none⟩) (h1.set _ _) (by decide) _
 refine ⟨_,(h1.set (j*2) (.bool g)).set (j*2+1) (.slice B n c),by simp;omega,fun i y hy=>?_⟩;by_cases e:i=j
 ·subst e;rw [List.getElem?_set_self hj] at hy;injection hy with hy
  subst hy;refine ⟨g,B,n,c,?_,?_,key hz⟩
  ·rw [List.getElem?_set_ne (by omega),List.getElem?_set_self (by omega)]
  ·rw [List.getElem?_set_self (by rw [List.length_set];omega)]
 ·rw [List.getElem?_set_ne (by omega)] at hy;obtain ⟨g',B',n',c',a1,a2,a3⟩:=h3 i y hy;refine ⟨g',B',n',c',?_,?_,key a3⟩
  ·rw [List.getElem?_set_ne (by omega),List.getElem?_set_ne (by omega)];exact a1
  ·rw [List.getElem?_set_ne (by omega),List.getElem?_set_ne (by omega)];exact a2
end
def Zx (n:Nat) (h:Nat×Nat):Value:= .slice (some ⟨h.1,0,none⟩) n h.2
structure OwnI (w:World) (lo g n:Nat) (hs:List (Nat×Nat)) (a:List (List Int)):Prop where
 head:VRow w g 87 (hs.map (Zx n))
 glo:lo<=g
 len:hs.length=a.length
 dist:∀(i j:Nat) (p q:Nat×Nat),hs[i]? =some p->hs[j]? =some q->i≠j->p.1≠q.1
 new:∀h∈hs,lo<=h.1/\n<=h.2/\h.2<=9223372036854775807
 all:AllLen a n
 row:∀(i:Nat) (h:Nat×Nat) (r:List Int),hs[i]? =some h->a[i]? =some r->RowI w h.1 r
section
variable {w w':World} {lo g n:Nat} {hs:List (Nat×Nat)} {a:List (List Int)}
theorem OwnI.ext (h:OwnI w lo g n hs a) (hx:Ext w w'):OwnI w' lo g n hs a:=
 ⟨h.head.ext hx,h.glo,h.len,h.dist,h.new,h.all,fun i p r hp hr=>(h.row i p r hp hr).ext hx⟩
theorem OwnI.hdr (h:OwnI w lo g n hs a) {i:Nat} (hi:i<a.length):∃b c,hs[i]? =some (b,c)/\w.cell? ⟨g,i,none⟩=some (.slice (some ⟨b,0,none⟩) n c)/\w.frozen? ⟨g,i,none⟩=false/\n<=c/\c<=9223372036854775807/\b<w.heap.size/\g<w.heap.size:=by
 have hi':i<hs.length:=by rw [h.len];exact hi
 obtain ⟨⟨b,c⟩,hp⟩:∃p,hs[i]? =some p:=⟨_,Ze hi'⟩;obtain ⟨r,hr⟩:∃r,a[i]? =some r:=⟨_,Ze hi⟩;have hn:=h.new _ (Zm hp);exact ⟨b,c,hp,h.head.cell (by simp [hp,Zx]),h.head.frozen _,hn.2.1,hn.2.2,(h.row i _ r hp hr).lt,h.head.lt⟩
theorem zdm {m:List (List Int)} {i j:Nat} {r:List Int} (hr:m[i]? =some r) (hj:j<r.length):r[j]? =some (ent m i j):=by
 unfold ent;simp [hr,hj]
theorem OwnI.entry (h:OwnI w lo g n hs a) {i j b c:Nat} (hp:hs[i]? =some (b,c)) (hi:i<a.length) (hj:j<n):∃s B k d,w.cell? ⟨b,j*2,none⟩=some (.bool s)/\w.cell? ⟨b,j*2+1,none⟩=some (.slice B k d)/\IntV w s B k d (ent a i j)/\w.frozen? ⟨b,j*2,none⟩=false/\w.frozen? ⟨b,j*2+1,none⟩=false:=by
 obtain ⟨r,hr⟩:∃r,a[i]? =some r:=⟨_,Ze hi⟩;exact (h.row i _ r hp hr).cells (zdm hr (by rw [h.all r (Zm hr)];exact hj))
theorem OwnI.mat (h:OwnI w lo g n hs a):MatV w (some ⟨g,0,none⟩) a:=by
 refine ⟨hs.map (Zx n),by simp [h.len],h.head.arr,fun i r hr=>?_⟩;have hi:i<a.length:=(Zg.1 hr).1;obtain ⟨⟨b,c⟩,hp⟩:∃p,hs[i]? =some p:=⟨_,Ze (by rw [h.len];exact hi)⟩;have hn:=h.new _ (Zm hp);have hl:=h.all r (Zm hr);refine ⟨some ⟨b,0,none⟩,c,by simp [hp,Zx,hl],(h.row i _ r hp hr).intsV,by rw [hl];exact hn.2.1,hn.2.2⟩
def zY (a:List (List Int)) (i j:Nat) (z:Int):List (List Int):=a.set i ((a.getD i []).set j z)
theorem zgl {a:List (List Int)} {i j:Nat} {z:Int} (hi:i<a.length) (hj:j<(a.getD i []).length) (x y:Nat):ent (zY a i j z) x y=if x=i/\y=j then z else ent a x y:=by
 unfold ent zY;by_cases hx:x=i
 ·subst hx;by_cases hy:y=j
  ·subst hy;simp only [List.getD_eq_getElem?_getD] at hj |-
   rw [List.getElem?_set_self hi,Option.getD_some,List.getElem?_set_self hj];simp
  ·simp only [List.getD_eq_getElem?_getD];rw [List.getElem?_set_self hi,Option.getD_some,List.getElem?_set_ne (by omega)];simp [hy]
 ·simp only [List.getD_eq_getElem?_getD];rw [List.getElem?_set_ne (by omega)];simp [hx]
theorem jU (a:List (List Int)) (i j:Nat) (z:Int):(zY a i j z).length=a.length:=by simp [zY]
theorem OwnI.set (h:OwnI w lo g n hs a) {i j b c:Nat} (hp:hs[i]? =some (b,c)) (hi:i<a.length) (hj:j<n) {s:Bool} {B:Option Addr} {k d:Nat} {z:Int} (hz:IntV w s B k d z):
  OwnI ((w.setCell ⟨b,j*2,none⟩ (.bool s)).setCell ⟨b,j*2+1,none⟩ (.slice B k d)) lo g n hs (zY a i j z):=by
 obtain ⟨r,hr⟩:∃r,a[i]? =some r:=⟨_,Ze hi⟩;have hR:=h.row i _ r hp hr;have hl:=h.all r (Zm hr);obtain ⟨cs,hcs⟩:=hR.heap;have hgd:a.getD i []=r:=by simp [List.getD,hr]
 have hgb:g≠b:=fun e=>by
  have h1:=h.head;unfold VRow at h1;rw [e,hcs] at h1;injection h1 with h1
  injection h1 with _ h1
  exact absurd h1 (by decide)
 refine ⟨(h.head.far (p:=⟨b,j*2,none⟩) hgb _).far (p:=⟨b,j*2+1,none⟩) hgb _,h.glo,by rw [jU];exact h.len,h.dist,h.new,fun x hx=>?_,fun i' p' r' hp' hr'=>?_⟩
 ·rcases List.mem_or_eq_of_mem_set hx with hx |rfl
  ·exact h.all x hx
  ·rw [hgd,List.length_set,hl]
 ·by_cases e:i'=i
  ·subst e;rw [hp] at hp';injection hp' with hp'
   subst hp';unfold zY at hr';rw [List.getElem?_set_self hi,hgd] at hr';injection hr' with hr'
   subst hr';exact hR.set (by omega) hz
  ·unfold zY at hr';rw [List.getElem?_set_ne (by omega)] at hr';exact (h.row i' p' r' hp' hr').far2 hcs (h.dist _ _ _ _ hp' hp e) _ _
theorem OwnI.swap (h:OwnI w lo g n hs a) {p k:Nat} {hp hk:Nat×Nat} (h1:hs[p]? =some hp) (h2:hs[k]? =some hk) (hpa:p<a.length) (hka:k<a.length):
  OwnI ((w.setCell ⟨g,p,none⟩ (Zx n hk)).setCell ⟨g,k,none⟩ (Zx n hp)) lo g n ((hs.set p hk).set k hp) ((a.set p (a.getD k [])).set k (a.getD p [])):=by
 have hpl:p<hs.length:=(Zg.1 h1).1;have hkl:k<hs.length:=(Zg.1 h2).1;have e1:((w.setCell ⟨g,p,none⟩ (Zx n hk)).setCell ⟨g,k,none⟩ (Zx n hp)).heap[g]? =some (.cells ((((hs.set p hk).set k hp).map (Zx n)).toArray) 87 (0,0)):=by
  have :=(h.head.set p (Zx n hk)).set k (Zx n hp);unfold VRow at this;rw [this,List.map_set,List.map_set]
 have zqv:Oth 87 w ((w.setCell ⟨g,p,none⟩ (Zx n hk)).setCell ⟨g,k,none⟩ (Zx n hp)):=Oth.set2 h.head p k _ _;have zsF:∀i q,((hs.set p hk).set k hp)[i]? =some q->∃i',hs[i']? =some q/\((a.set p (a.getD k [])).set k (a.getD p []))[i]? =a[i']? :=fun i q hq=>by
  by_cases hik:i=k
  ·subst hik;rw [List.getElem?_set_self (by rw [List.length_set];exact hkl)] at hq;injection hq with hq
   subst hq;refine ⟨p,h1,?_⟩;rw [List.getElem?_set_self (by rw [List.length_set];exact hka),List.getD,Ze hpa];rfl
  ·rw [List.getElem?_set_ne (by omega)] at hq;by_cases hip:i=p
   ·subst hip;rw [List.getElem?_set_self hpl] at hq;injection hq with hq
    subst hq;refine ⟨k,h2,?_⟩;rw [List.getElem?_set_ne (by omega),List.getElem?_set_self hpa,List.getD,Ze hka];rfl
   ·rw [List.getElem?_set_ne (by omega)] at hq;refine ⟨i,hq,?_⟩;rw [List.getElem?_set_ne (by omega),List.getElem?_set_ne (by omega)]
 refine ⟨e1,h.glo,by simp [h.len],?_,fun q hq=>?_,fun r hr=>?_,fun i q r hq hr=>?_⟩
 ·have wh:∀i q,((hs.set p hk).set k hp)[i]? =some q->hs[(if i=k then p else if i=p then k else i)]? =some q:=fun i q hq=>by
   by_cases hik:i=k
   ·subst hik;rw [List.getElem?_set_self (by rw [List.length_set];exact hkl)] at hq;rw [if_pos rfl,h1];exact hq
   ·rw [List.getElem?_set_ne (by omega)] at hq;rw [if_neg hik];by_cases hip:i=p
    ·subst hip;rw [List.getElem?_set_self hpl] at hq;rw [if_pos rfl,h2];exact hq
    ·rw [List.getElem?_set_ne (by omega)] at hq;rw [if_neg hip];exact hq
  intro i j q1 q2 hq1 hq2 hij;refine h.dist _ _ _ _ (wh i q1 hq1) (wh j q2 hq2) ?_;split<;>split<;>(try split)<;>(try split)<;>omega
 ·obtain ⟨i,hi⟩:=List.getElem?_of_mem hq;obtain ⟨i',h3,_⟩:=zsF i q hi;exact h.new q (Zm h3)
 ·obtain ⟨i,hi⟩:=List.getElem?_of_mem hr;obtain ⟨q,hq⟩:∃q,((hs.set p hk).set k hp)[i]? =some q:=⟨_,Ze (by have :=(Zg.1 hi).1;simp at this |-;rw [h.len];exact this)⟩;obtain ⟨i',_,h4⟩:=zsF i q hq;rw [h4] at hi;exact h.all r (Zm hi)
 ·obtain ⟨i',h3,h4⟩:=zsF i q hq;rw [h4] at hr;exact (h.row i' q r h3 hr).oth zqv (by decide) (by decide)
end
end
section
theorem J0 (j:Nat):(4294967296:Int)^j=2^(32*j):=by
 rw [Int.pow_mul];rfl
theorem zgm {l:List Int} {j:Nat} {x:Int} (hx:l[j]? =some x):val l=val (l.take j)+(4294967296:Int)^j*(x+4294967296*val (l.drop (j+1))):=by
 have hj:j<l.length:=(Zg.1 hx).1;have h1:=zba (l:=l) j;rw [List.length_take,Nat.min_eq_left (by omega)] at h1;have h2:l.drop j=x::l.drop (j+1):=by
  rw [List.drop_eq_getElem_cons hj,(Zg.1 hx).2]
 rw [h2] at h1;exact h1
theorem zmb {l:List Int} (hl:Limbs l) {j:Nat} {x:Int} (hx:l[j]? =some x) {k:Nat} (hk:k<32):(x / 2^k)%2=(val l / 2^(32*j+k))%2:=by
 have h1:=zgm hx;have h2:=qN (hl.take j);have h3:=ZX (hl.take j);have hj:j<l.length:=(Zg.1 hx).1;rw [List.length_take,Nat.min_eq_left (by omega)] at h3;have hp:=QL j;have e1:val l / (4294967296:Int)^j=x+4294967296*val (l.drop (j+1)):=by
  rw [h1,Int.add_mul_ediv_left _ _ (by omega),Int.ediv_eq_zero_of_lt h2 h3];omega
 have e2:val l / 2^(32*j+k)=val l / (4294967296:Int)^j / 2^k:=by
  rw [Int.pow_add,<-J0,Int.ediv_ediv_of_nonneg (by omega)]
 rw [e2,e1];have hk2:(0:Int)<2^k:=Int.pow_pos (by decide);obtain ⟨t,ht⟩:∃t,32=k+(t+1):=⟨31-k,by omega⟩;have e3:(4294967296:Int)=2^k*(2*2^t):=by
  have :(4294967296:Int)=2^32:=rfl;rw [this,ht,Int.pow_add,Int.pow_succ];grind
 have e4:x+4294967296*val (l.drop (j+1))=x+2^k*(2*(2^t*val (l.drop (j+1)))):=by rw [e3];grind
 rw [e4,Int.add_mul_ediv_left _ _ (by omega)];omega
theorem zdn (a k:Nat) (h:a%2^(k+1)=0):a|||2^k=a+2^k:=by
 have h1:a=(a / 2^(k+1))<<<(k+1):=by
  rw [Nat.shiftLeft_eq,Nat.div_mul_cancel (Nat.dvd_of_mod_eq_zero h)]
 have h2:=Nat.shiftLeft_add_eq_or_of_lt (b:=2^k) (i:=k+1) (Nat.pow_lt_pow_right (by omega) (by omega)) (a / 2^(k+1));rw [<-h1] at h2;exact h2.symm
structure DivI (M N:Int) (i:Nat) (Q R:Int):Prop where
 eq:M / 2^i=Q*N+R
 r0:0<=R
 r1:R<N
 q0:0<=Q
theorem zgn (M:Int) (i:Nat):M / 2^i=2*(M / 2^(i+1))+(M / 2^i)%2:=by
 have e:M / 2^(i+1)=M / 2^i / 2:=by rw [Int.pow_succ,Int.ediv_ediv_of_nonneg (Int.le_of_lt (Int.pow_pos (by decide)))]
 rw [e];omega
theorem DivI.low {M N:Int} {i:Nat} {Q R:Int} (h:DivI M N (i+1) Q R) (hlt:2*R+(M / 2^i)%2<N):DivI M N i (2*Q) (2*R+(M / 2^i)%2):=by
 have h1:=zgn M i;have h2:=h.eq;have h3:=h.r0;have h4:=h.q0;refine ⟨?_,by omega,hlt,by omega⟩;rw [h1,h2];grind
theorem DivI.high {M N:Int} {i:Nat} {Q R:Int} (h:DivI M N (i+1) Q R) (hge:N<=2*R+(M / 2^i)%2):DivI M N i (2*Q+1) (2*R+(M / 2^i)%2-N):=by
 have h1:=zgn M i;have h2:=h.eq;have h3:=h.r0;have h4:=h.q0;have h5:=h.r1;refine ⟨?_,by omega,by omega,by omega⟩;rw [h1,h2];grind
theorem DivI.start {M N:Int} {i:Nat} (h0:0<=M) (hM:M<2^i) (hN:0<N):DivI M N i 0 0:=
 ⟨by rw [Int.ediv_eq_zero_of_lt h0 hM];omega,by omega,hN,by omega⟩
theorem DivI.done {M N Q R:Int} (h:DivI M N 0 Q R):Q=M / N/\R=M%N:=by
 have h1:=h.eq;rw [Int.pow_zero,Int.ediv_one] at h1;have h2:=h.r0;have h3:=h.r1;have e:M=R+N*Q:=by rw [h1];grind
 constructor
 ·rw [e,Int.add_mul_ediv_left _ _ (by omega),Int.ediv_eq_zero_of_lt h2 h3];omega
 ·rw [e,Int.add_mul_emod_self_left,Int.emod_eq_of_lt h2 h3]
end
end Go.Proofs.YtjehjkipcaohpaaGreat

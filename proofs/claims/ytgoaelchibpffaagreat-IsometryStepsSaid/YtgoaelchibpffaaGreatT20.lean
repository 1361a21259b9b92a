import Derived.Test.YtgoaelchibpffaaGreatT19
set_option maxHeartbeats 8000000
set_option linter.unusedVariables false
set_option linter.unusedSimpArgs false
namespace Go.Proofs.YtgoaelchibpffaaGreat
open List (getElem?_append_left getElem?_append_right length_take getElem?_take)
variable {e:Bool} {kk q:Int} {its:List (Int×List Int)} {L T b u:List (List Int)} {l x:List Int} {vs:List Value} {i j n p:Nat} {f g t t':Nat->Nat->Int} {w w':World}
section
open Go.RowKit
open La
def ItV(w:World)(vs:List Value)(its:List (Int×List Int)):Prop:=vs.length=its.length*2/\∀(i:Nat)(p:Int×List Int),its[i]? =some p->∃B c,vs[i*2]? =some (.int .i64 p.1)/\vs[i*2+1]? =some (.slice B p.2.length c)/\Ints w B 2 .i64 p.2/\p.2.length<=c/\c<=9223372036854775807
theorem ItV.map(h:ItV w vs its)(hk:∀{B:Option Addr}{l:List Int},Ints w B 2 .i64 l->Ints w' B 2 .i64 l):ItV w' vs its:=⟨h.1,fun i p hp=>by
 obtain⟨B,c,a1,a2,a3,a4⟩:=h.2 i p hp;exact⟨B,c,a1,a2,hk a3,a4⟩⟩
theorem ItV.ext(h:ItV w vs its)(hx:Ext w w'):ItV w' vs its:=h.map fun h=>h.ext hx
theorem ItV.nil(w:World):ItV w [] []:=⟨rfl,fun i p hp=>by simp at hp⟩
theorem ItV.snoc(h:ItV w vs its){B:Option Addr}{c:Nat}{a:Int}(hI:Ints w B 2 .i64 x)(h1:x.length<=c)(h2:c<=9223372036854775807):ItV w (vs++[.int .i64 a,.slice B x.length c]) (its++[(a,x)]):=by
 refine⟨by simp[h.1];omega,fun i p hp=>?_⟩;rcases Zl i its.length with hlt|hge
 ·rw[getElem?_append_left hlt]at hp;obtain⟨B',c',a1,a2,a3⟩:=h.2 i p hp;have hl:=h.1;exact⟨B',c',by rw[getElem?_append_left aa];exact a1,by rw[getElem?_append_left aa];exact a2,a3⟩
 ·have hi:i=its.length:=by
   have:=(Zg.1 hp).1;simp at this;omega
  subst hi;rw[getElem?_append_right Zr,Nat.sub_self]at hp;simp only[List.getElem?_cons_zero]at hp;injection hp with hp
  subst hp;have hl:=h.1;exact⟨B,c,by rw[getElem?_append_right aa,hl,Nat.sub_self];rfl,by rw[getElem?_append_right aa,hl,Nat.add_sub_cancel_left];rfl,hI,h1,h2⟩
end
section
open Go.RowKit
open La
theorem zoZ(g:Bool)(B:Option Addr)(k d:Nat)(g':Bool)(B':Option Addr)(k' d':Nat)(w:World):(Instr.field 173 (.agg #[.bool g,.slice B k d,.bool g',.slice B' k' d']) 0).run Tryz.prog w= .ok (.agg #[.bool g,.slice B k d]) w:=by
 obtain⟨i,h1,h2,h3,h4⟩:=info_parts j3;simp[Instr.field,run_underlying Tryz.underlying173,asAgg,part,sizeOf,typeInfo,go_sem,h1,h3]
attribute [local go_sem] zoZ
end
section
open Go.RowKit
open La
theorem Arr.take{A:Option Addr}{e:TypeId}(h:Arr w A e vs)(k:Nat):Arr w A e (vs.take k):=fun h0=>by
 obtain⟨b,o,cs,fr,hA,hb,hc⟩:=h (by rw[length_take]at h0;omega);refine⟨b,o,cs,fr,hA,hb,fun j u hu=>?_⟩;rw[getElem?_take]at hu;split at hu
 ·exact hc _ _ hu
 ·cases hu
theorem ItV.take(h:ItV w vs its)(k:Nat):ItV w (vs.take (k*2)) (its.take k):=by
 refine⟨by rw[length_take,length_take,h.1];omega,fun i p hp=>?_⟩;rw[getElem?_take]at hp;split at hp
 ·rename_i hi
  obtain⟨B,c,a1,a2,a3⟩:=h.2 i p hp;exact⟨B,c,by rw[getElem?_take,if_pos aa];exact a1,by rw[getElem?_take,if_pos aa];exact a2,a3⟩
 ·cases hp
theorem ItV.append{vs':List Value}{its':List (Int×List Int)}(h:ItV w vs its)(h':ItV w vs' its'):ItV w (vs++vs') (its++its'):=by
 refine⟨by simp[h.1,h'.1];omega,fun i p hp=>?_⟩;have hl:=h.1;rcases Zl i its.length with hlt|hge
 ·rw[getElem?_append_left hlt]at hp;obtain⟨B,c,a1,a2,a3⟩:=h.2 i p hp;exact⟨B,c,by rw[getElem?_append_left aa];exact a1,by rw[getElem?_append_left aa];exact a2,a3⟩
 ·rw[getElem?_append_right hge]at hp;obtain⟨B,c,a1,a2,a3⟩:=h'.2 _ p hp;exact⟨B,c,by rw[getElem?_append_right aa,(aa:i*2-vs.length=(i-its.length)*2)];exact a1,by rw[getElem?_append_right aa,(aa:i*2+1-vs.length=(i-its.length)*2+1)];exact a2,a3⟩
end
section
namespace La
def qN(i j:Nat)(q:Int)(f:Nat->Nat->Int):Nat->Nat->Int:=fun x y=>(f x y-(if x=i then q*f j y else 0))-(if y=i then q*(f x j-(if x=i then q*f j j else 0)) else 0)
def ja(p:Nat)(f:Nat->Nat->Int):Nat->Nat->Int:=fun x y=>f (sg p x) (sg p y)
def Z9(i x:Nat):Int:=if x=i then-1 else 1
def jt(i:Nat)(f:Nat->Nat->Int):Nat->Nat->Int:=fun x y=>Z9 i x*Z9 i y*f x y
def sn(i x:Nat):Rat:=if x=i then-1 else 1
def ngf(i:Nat)(f:Mx):Mx:=fun x y=>sn i x*sn i y*f x y
theorem zhU(i x:Nat):sn i x*sn i x=1:=by unfold sn;grind
theorem zo0(i:Nat)(f:Mx)(k:Nat):elim (ngf i f) k=ngf i (elim f k):=by
 funext x y
 have h:=zhU i k;simp only[elim,ngf];grind
theorem zhV(i:Nat)(f:Mx)(l:Nat):S (ngf i f) l=ngf i (S f l):=by
 induction l with
 |zero=>rfl
 |succ l ih=>
  show elim (S (ngf i f) l) l=ngf i (elim (S f l) l);rw[ih,zo0]
theorem zhW(i:Nat)(f:Mx)(l:Nat):ngf i f l l=f l l:=by unfold ngf;rw[zhU,Rat.one_mul]
theorem Pos.ngf{f:Mx}(h:Pos f n)(i:Nat):Pos (ngf i f) n:=fun l hl=>by
 rw[zhV,zhW];exact h l hl
theorem Sym.ngf{f:Mx}(h:Sym f)(i:Nat):Sym (ngf i f):=fun x y=>by
 unfold La.ngf;rw[h x y,Rat.mul_comm (sn i x)]
theorem zo1(i:Nat)(f:Mx)(k:Nat):dd (ngf i f) k=dd f k:=by
 induction k with
 |zero=>rfl
 |succ k ih=>
  show dd (ngf i f) k*S (ngf i f) k k k=dd f k*S f k k k;rw[ih,zhV,zhW]
theorem zhX(i j:Nat)(q:Int)(f:Nat->Nat->Int):zf (qN i j q f)=z7 i j q (zf f):=by
 funext x y
 simp only[zf,qN,z7,Qz,Qy];split<;>split<;>simp only[Rat.intCast_sub]<;>grind
theorem zhY(p:Nat)(f:Nat->Nat->Int):zf (ja p f)=swf p (zf f):=rfl
theorem zo2(i:Nat)(f:Nat->Nat->Int):zf (jt i f)=ngf i (zf f):=by
 funext x y
 simp only[zf,jt,ngf,Z9,sn,Rat.intCast_mul];split<;>split<;>simp
theorem zhZ(h:zf f=zf g):f=g:=by
 funext x y
 have:=congrFun (congrFun h x) y;simpa[zf] using this
inductive Bs (n:Nat) (f:Nat->Nat->Int):(Nat->Nat->Int)->Prop
 |refl:Bs n f f
 |red {g:Nat->Nat->Int} (i j:Nat) (q:Int):Bs n f g->j<i->i<n->Bs n f (qN i j q g)
 |sw {g:Nat->Nat->Int} (p:Nat):Bs n f g->p+1<n->Bs n f (ja p g)
 |ng {g:Nat->Nat->Int} (i:Nat):Bs n f g->i<n->Bs n f (jt i g)
theorem Bs.ok(h:Bs n f g)(hs:Sym (zf f))(hp:Pos (zf f) n):Sym (zf g)/\Pos (zf g) n/\dd (zf g) n=dd (zf f) n:=by
 induction h with
 |refl=>grind
 |red i j q _ h1 h2 ih=>
  obtain⟨a,b,c⟩:=ih;rw[zhX];exact⟨a.red i j q,b.red q h1,by rw[zbI q h1 n b.piv,c]⟩
 |@sw g p _ h1 ih=>
  obtain⟨a,b,c⟩:=ih;rw[zhY];refine⟨a.swf p,Pos.swf a b h1,?_⟩;have hq:=Jh a b (i:=p+1) (l:=p) h1 aa;have:=zbJ (p:=p) (b.le (aa:p+2<=n)).piv ae (n-(p+2));grind
 |ng i _ h1 ih=>
  obtain⟨a,b,c⟩:=ih;rw[zo2];exact⟨a.ngf i,b.ngf i,by rw[zo1,c]⟩
def tr(i j x:Nat):Nat:=if x=i then j else if x=j then i else x
def Qx(i j:Nat)(f:Nat->Nat->Int):Nat->Nat->Int:=fun x y=>f (tr i j x) (tr i j y)
theorem zo3(i j x:Nat):tr i j (tr i j x)=x:=by unfold tr;grind
theorem zaH(p x:Nat):sg p (sg p x)=x:=by unfold sg;grind
theorem zh0(i j x:Nat)(h:i<j):tr i (j+1) x=sg j (tr i j (sg j x)):=by
 unfold tr sg;grind
theorem zo4(i j x:Nat):tr i j x=tr j i x:=by unfold tr;grind
theorem Bs.trUp(i d:Nat):∀g,Bs n f g->i+d+1<n->Bs n f (Qx i (i+d+1) g):=by
 induction d with
 |zero=>
  intro g h hi;have e:Qx i (i+0+1) g=ja i g:=by rfl
  exact h.sw i hi
 |succ d ih=>
  intro g h hi;have h1:=(ih _ (h.sw (i+d+1) aa) aa).sw (i+d+1) aa;have e:Qx i (i+(d+1)+1) g=ja (i+d+1) (Qx i (i+d+1) (ja (i+d+1) g)):=by
   funext x y
   simp only[Qx,ja];rw[(aa:i+(d+1)+1=(i+d+1)+1),zh0 _ _ x aa,zh0 _ _ y aa]
  grind
theorem Bs.tr(h:Bs n f g)(hi:i<n)(hj:j<n)(hne:i≠j):Bs n f (Qx i j g):=by
 rcases Nat.lt_or_gt_of_ne hne with h1|h1
 ·have:=h.trUp i (j-i-1) g aa;grind
 ·have:=h.trUp j (i-j-1) g aa;have e:Qx i j g=Qx j i g:=by
   funext x y
   simp only[Qx,zo4 i j]
  grind
theorem Bs.add(q:Int)(h:Bs n f g)(hi:i<n)(hj:j<n)(hne:i≠j):Bs n f (qN i j q g):=by
 rcases Nat.lt_or_gt_of_ne hne with h1|h1
 ·have h2:=((h.tr hi hj hne).red j i q h1 hj).tr hi hj hne;have e:qN i j q g=Qx i j (qN j i q (Qx i j g)):=by
   funext x y
   have t1:La.tr i j i=j:=by unfold La.tr;simp
   have t3:∀x,La.tr i j x=j↔x=i:=fun x=>by unfold La.tr;grind
   simp only[qN,Qx,zo3,t1,t3]
  rwa [e]
 ·exact h.red i j q h1 hi
def bz(n:Nat)(f:Nat->Nat->Int)(x y:Nat->Int):Int:=zj n fun i=>x i*zj n fun j=>f i j*y j
def qO(i j:Nat)(q:Int)(x:Nat->Int):Nat->Int:=fun k=>if k=j then x j-q*x i else x k
theorem zh1{a:Nat}(F:Nat->Int)(ha:a<n):(zj n fun c=>if c=a then F c else 0)=F a:=by
 rw[QJ ha (fun i _ hne=>ae),if_pos rfl]
theorem zh2(q:Int)(A y:Nat->Int)(hi:i<n)(hj:j<n):(zj n fun c=>(A c-(if c=i then q*A j else 0))*y c)=zj n fun c=>A c*qO i j q y c:=by
 have e1:(zj n fun c=>(A c-(if c=i then q*A j else 0))*y c)=(zj n fun c=>A c*y c)-zj n fun c=>if c=i then q*A j*y c else 0:=by
  rw[<-zb9];grind
 have e2:(zj n fun c=>A c*qO i j q y c)=(zj n fun c=>A c*y c)-zj n fun c=>if c=j then A c*(q*y i) else 0:=by
  rw[<-zb9];exact zT fun c _=>by unfold qO;grind
 rw[e1,e2,zh1 (fun c=>q*A j*y c) hi,zh1 (fun c=>A c*(q*y i)) hj];grind
theorem jR(a:Int)(n:Nat)(F:Nat->Int):(zj n fun i=>a*F i)=a*zj n F:=by
 induction n with
 |zero=>simp[zj]
 |succ n ih=>rw[Zx,ih,Zx,Int.mul_add]
theorem zo5(q:Int)(f:Nat->Nat->Int)(x y:Nat->Int)(hi:i<n)(hj:j<n):bz n (qN i j q f) x y=bz n f (qO i j q x) (qO i j q y):=by
 unfold bz;have e1:∀r,(zj n fun c=>qN i j q f r c*y c)=(zj n fun c=>f r c*qO i j q y c)-(if r=i then q*zj n (fun c=>f j c*qO i j q y c) else 0):=fun r=>by
  have h1:=zh2 q (fun c=>f r c-(if r=i then q*f j c else 0)) y hi hj;have h2:(zj n fun c=>qN i j q f r c*y c)=zj n fun c=>(f r c-(if r=i then q*f j c else 0))*qO i j q y c:=h1
  split
  ·rw[<-jR,<-zb9];grind
  grind
 have e2:(zj n fun r=>x r*zj n fun c=>qN i j q f r c*y c)=zj n fun r=>((zj n fun c=>f r c*qO i j q y c)-(if r=i then q*zj n (fun c=>f j c*qO i j q y c) else 0))*x r:=zT fun r _=>by rw[e1 r,Int.mul_comm]
 rw[e2,zh2 q (fun r=>zj n fun c=>f r c*qO i j q y c) x hi hj];grind
theorem zh3(F:Nat->Int)(hp:p+1<n):(zj n fun i=>F (sg p i))=zj n F:=by
 obtain⟨d,rfl⟩:∃d,n=p+2+d:=⟨n-(p+2),aa⟩;induction d with
 |zero=>
  rw[Zx,Zx,Zx,Zx,J9,zcX];have:(zj p fun i=>F (sg p i))=zj p F:=zT fun i hi=>by rw[je aa aa]
  grind
 |succ d ih=>
  show zj (p+2+d+1) _=zj (p+2+d+1) _;rw[Zx,Zx,ih aa,je aa aa]
theorem zo6(f:Nat->Nat->Int)(x y:Nat->Int)(hp:p+1<n):bz n (ja p f) x y=bz n f (fun k=>x (sg p k)) (fun k=>y (sg p k)):=by
 unfold bz;have e1:∀r,(zj n fun c=>ja p f r c*y c)=zj n fun c=>f (sg p r) c*y (sg p c):=fun r=>by
  rw[<-zh3 (fun c=>f (sg p r) c*y (sg p c)) hp];exact zT fun c _=>by rw[zaH];rfl
 rw[<-zh3 (fun r=>x (sg p r)*zj n fun c=>f r c*y (sg p c)) hp];exact zT fun r _=>by rw[e1 r,zaH]
theorem zo7(i:Nat)(f:Nat->Nat->Int)(x y:Nat->Int):bz n (jt i f) x y=bz n f (fun k=>Z9 i k*x k) (fun k=>Z9 i k*y k):=by
 refine zT fun r _=>?_
 show _=Z9 i r*x r*_;rw[Int.mul_comm (Z9 i r) (x r),Int.mul_assoc];congr 1
 rw[<-jR (Z9 i r)];exact zT fun c _=>by unfold jt;grind
structure Bij(n:Nat)(f g:Nat->Nat->Int)(u v:(Nat->Int)->Nat->Int):Prop where
 uv:∀x,u (v x)=x
 vu:∀x,v (u x)=x
 neg:∀x,u (fun k=>-x k)=fun k=>-u x k
 off:∀x k,n<=k->u x k=x k
 bil:∀x y,bz n g x y=bz n f (u x) (u y)
theorem Bij.symm{u v:(Nat->Int)->Nat->Int}(h:Bij n f g u v):Bij n g f v u where
 uv:=h.vu
 vu:=h.uv
 neg:=fun x=>by
  have:=h.neg (v x);rw[h.uv]at this;have h2:=congrArg v this;rw[h.vu]at h2;grind
 off:=fun x k hk=>by
  have:=h.off (v x) k hk;rw[h.uv]at this;grind
 bil:=fun x y=>by rw[h.bil (v x) (v y),h.uv,h.uv]
theorem Bij.trans{k:Nat->Nat->Int}{u v u' v':(Nat->Int)->Nat->Int}(h:Bij n f g u v)(h':Bij n g k u' v'):Bij n f k (fun x=>u (u' x)) (fun x=>v' (v x)) where
 uv:=fun x=>by simp only[h'.uv,h.uv]
 vu:=fun x=>by simp only[h.vu,h'.vu]
 neg:=fun x=>by simp only[h'.neg,h.neg]
 off:=fun x j hj=>by rw[h.off _ _ hj,h'.off _ _ hj]
 bil:=fun x y=>by rw[h'.bil,h.bil]
theorem zo8(i k:Nat):Z9 i k*Z9 i k=1:=by unfold Z9;grind
theorem Bs.bij(h:Bs n f g):∃u v,Bij n f g u v:=by
 induction h with
 |refl=>exact⟨id,id,fun _=>rfl,fun _=>rfl,fun _=>rfl,fun _ _ _=>rfl,fun _ _=>rfl⟩
 |red i j q _ h1 h2 ih=>
  obtain⟨u,v,ih⟩:=ih;refine⟨_,_,ih.trans (u':=qO i j q) (v':=qO i j (-q)) ⟨fun x=>?_,fun x=>?_,fun x=>?_,fun x k hk=>?_,fun x y=>zo5 q _ x y h2 aa⟩⟩
  ·funext k;unfold qO;grind
  ·funext k;unfold qO;grind
  ·funext k;unfold qO;split<;>grind
  ·unfold qO;grind
 |sw p _ h1 ih=>
  obtain⟨u,v,ih⟩:=ih;refine⟨_,_,ih.trans (u':=fun x k=>x (sg p k)) (v':=fun x k=>x (sg p k)) ⟨fun x=>?_,fun x=>?_,fun x=>rfl,fun x k hk=>?_,fun x y=>zo6 _ x y h1⟩⟩
  ·funext k;simp only[zaH]
  ·funext k;simp only[zaH]
  ·rw[je aa aa]
 |ng i _ h1 ih=>
  obtain⟨u,v,ih⟩:=ih;have e:∀(x:Nat->Int)k,Z9 i k*(Z9 i k*x k)=x k:=fun x k=>by rw[<-Int.mul_assoc,zo8,Int.one_mul]
  refine⟨_,_,ih.trans (u':=fun x k=>Z9 i k*x k) (v':=fun x k=>Z9 i k*x k) ⟨fun x=>?_,fun x=>?_,fun x=>?_,fun x k hk=>?_,fun x y=>zo7 i _ x y⟩⟩
  ·simp_all
  ·simp_all
  ·grind
  ·unfold Z9;grind
end La
end
section
open La
theorem Rel.bs{a h:List (List Int)}(hr:Rel n a h)(hl:a.length=n)(ha:AllLen a n):Bs n (ent a) (ent h)/\h.length=n/\AllLen h n:=by
 induction hr with
 |refl=>exact⟨.refl,hl,ha⟩
 |red i j q _ h1 h2 ih=>
  obtain⟨b,c,d⟩:=ih;refine⟨?_,zaw _ _ _,zbd _ _ _⟩;rw[zhZ ((zgF (q:=q) c d h2 h1).trans (zhX i j q _).symm)];exact b.red i j q h1 h2
 |swap p _ h1 ih=>
  obtain⟨b,c,d⟩:=ih;refine⟨?_,zaw _ _ _,zbd _ _ _⟩;rw[zhZ ((zgG c d h1).trans (zhY p _).symm)];exact b.sw p h1
def qa(u:(Nat->Int)->Nat->Int)(x:List Int):List Int:=(List.range x.length).map (u fun k=>x.getD k 0)
theorem Ja(u:(Nat->Int)->Nat->Int)(x:List Int):(qa u x).length=x.length:=by simp[qa]
theorem zbs{u v:(Nat->Int)->Nat->Int}(h:Bij n f g u v)(hx:x.length=n):(fun k=>(qa u x).getD k 0)=u fun k=>x.getD k 0:=by
 funext k
 unfold qa;rcases Zl k n with hk|hk
 ·simp[List.getD,hx,hk]
 ·rw[h.off _ k hk];simp[List.getD,hx,(aa:¬k<n)]
theorem zbt{y:List Int}(hl:x.length=y.length)(h:∀k,x.getD k 0=y.getD k 0):x=y:=by
 refine List.ext_getElem hl fun k h1 h2=>?_
 have:=h k;simpa[List.getD,h1,h2] using this
theorem zh4{u v:(Nat->Int)->Nat->Int}(h:Bij n f g u v)(hx:x.length=n):qa u (qa v x)=x:=by
 refine zbt (by rw[Ja,Ja]) fun k=>?_
 have h1:=zbs h (x:=qa v x) (by rw[Ja,hx]);rw[zbs h.symm hx,h.uv]at h1;exact congrFun h1 k
theorem zcB(x:List Int)(k:Nat):(x.map fun c=>-c).getD k 0=-x.getD k 0:=by
 simp only[List.getD,List.getElem?_map]
 cases x[k]? <;>simp
theorem zh5{u v:(Nat->Int)->Nat->Int}(h:Bij n f g u v)(hx:x.length=n):qa u (x.map fun c=>-c)=(qa u x).map fun c=>-c:=by
 refine zbt (by simp[Ja]) fun k=>?_
 have h1:=congrFun (zbs h (x:=x.map fun c=>-c) (by simpa using hx)) k;have h2:=congrFun (zbs h hx) k;rw[h1,zcB,h2];have:(fun k=>(x.map fun c=>-c).getD k 0)=fun k=>-x.getD k 0:=funext (zcB x)
 rw[this,h.neg]
theorem zh6{a:List (List Int)}{u v:(Nat->Int)->Nat->Int}(ha:AllLen a a.length)(hb:AllLen b b.length)(hl:a.length=b.length)(h:Bij a.length (ent a) (ent b) u v)(hx:x.length=a.length):zh b x=zh a (qa u x):=by
 have h1:=h.bil (fun k=>x.getD k 0) fun k=>x.getD k 0
 rw[<-zbs h hx]at h1;rw[<-Qf hb x aa,<-Qf ha (qa u x) (by rw[Ja,hx])];have e:∀(m:List (List Int))(y:List Int),zE m y y=bz m.length (ent m) (fun k=>y.getD k 0) (fun k=>y.getD k 0):=fun _ _=>rfl
 rw[e,e,<-hl];exact h1
theorem zo9(x:List Int):zJ x=x∨zJ x=x.map fun c=>-c:=by
 unfold zJ;split
 ·exact .inr rfl
 ·exact .inl rfl
theorem zen{u v:(Nat->Int)->Nat->Int}(h:Bij n f g u v)(hx:x.length=n)(h0:0<zD x):zJ (qa u (zJ (qa v x)))=x:=by
 have h1:=zh4 h hx;rcases zo9 (qa v x) with e|e
 ·rw[e,h1,zhR h0]
 ·rw[e,zh5 h (by rw[Ja,hx]),h1];unfold zJ;rw[jM,if_pos aa,Jz]
theorem zh7{u v:(Nat->Int)->Nat->Int}(h:Bij n f g u v)(hx:x.length=n)(h0:0<zD x):zD (qa v x)≠0:=fun hz=>by
 have hzz:=Jy hz;have e:(qa v x).map (fun c=>-c)=qa v x:=by
  conv=>rhs;rw[<-List.map_id (qa v x)]
  exact List.map_congr_left fun y hy=>by rw[hzz y hy];rfl
 have h1:=zh4 h hx;have h2:=zh5 h (x:=qa v x) (by rw[Ja,hx]);rw[e,h1]at h2;have h3:=jM x;rw[<-h2]at h3;omega
theorem zpa{a:List (List Int)}{u v:(Nat->Int)->Nat->Int}(ha:AllLen a a.length)(hb:AllLen b b.length)(hl:a.length=b.length)(h:Bij a.length (ent a) (ent b) u v)(hL:VecList a q e L)(hT:VecList b q e T):(T.map fun x=>zJ (qa u x)).Perm L:=by
 have hb':Bij b.length (ent b) (ent a) v u:=by rw[<-hl];exact h.symm
 refine(List.perm_ext_iff_of_nodup ?_ hL.nodup).2 fun y=>?_
 ·rw[List.Nodup,List.pairwise_map];refine List.Pairwise.imp_of_mem ?_ hT.nodup;intro x x' hx hx' hne he;obtain⟨p1,p2,-⟩:=(hT.mem x).1 hx;obtain⟨q1,q2,-⟩:=(hT.mem x').1 hx';apply hne;rw[<-zen h.symm (aa:x.length=a.length) p2,<-zen h.symm (aa:x'.length=a.length) q2,he]
 ·rw[List.mem_map];constructor
  ·rintro⟨x,hx,rfl⟩;obtain⟨p1,p2,p3,p4⟩:=(hT.mem x).1 hx;have e1:=zh6 ha hb hl h (x:=x) aa;refine(hL.mem _).2 ⟨by rw[JV,Ja];omega,zcf _ (zh7 h.symm aa p2),by rw[JU,<-e1];exact p3,fun he=>by rw[JU,<-e1];exact p4 he⟩
  ·intro hy;obtain⟨p1,p2,p3,p4⟩:=(hL.mem y).1 hy;have e1:=zh6 hb ha hl.symm hb' (x:=y) aa;exact⟨zJ (qa v y),(hT.mem _).2 ⟨by rw[JV,Ja];omega,zcf _ (zh7 h p1 p2),by rw[JU,<-e1];exact p3,fun he=>by rw[JU,<-e1];exact p4 he⟩,zen h p1 p2⟩
theorem zpb{a:List (List Int)}{u v:(Nat->Int)->Nat->Int}(ha:AllLen a a.length)(hb:AllLen b b.length)(hl:a.length=b.length)(h:Bij a.length (ent a) (ent b) u v)(hL:VecList a q e L)(hT:VecList b q e T):L.length=T.length:=by
 have:=(zpa ha hb hl h hL hT).length_eq;rw[List.length_map]at this;exact this.symm
end
section
open Go.RowKit
def zcC(a:List (List Int)):Prop:=j8 a/\detF a<=10000
def PreOf(l:List Int)(n:Nat)(kk:Int)(P:List (List Int))(k:Nat):Prop:=
 (kk<=3/\P=zbp l 0 n/\k=0+n+qC n)∨(kk=4/\P=zI (qm false n) 0 0 (ent (qm false n) 0 0+l.getD 0 0%256%((3:Nat):Int))/\k=1)∨(kk=5/\P=zI (qm true n) (n-1) (n-1) (ent (qm true n) (n-1) (n-1)+l.getD 0 0%256%((2:Nat):Int))/\k=1)∨(kk=6/\P=ZQ l 0 n 9/\k=0+n)∨(kk=7/\P=ZQ l 0 n 1/\k=0+n)
def GrOf(l:List Int)(n:Nat)(kk:Int)(a:List (List Int)):Prop:=∃P k,PreOf l n kk P k/\((zcC P/\a=P)∨(¬zcC P/\a=ZQ l k n 2))
theorem PreOf.uniq{P P':List (List Int)}{k k':Nat}(h:PreOf l n kk P k)(h':PreOf l n kk P' k'):P=P'/\k=k':=by
 unfold PreOf at h h';rcases h with ⟨a,b,c⟩|⟨a,b,c⟩|⟨a,b,c⟩|⟨a,b,c⟩|⟨a,b,c⟩<;>rcases h' with ⟨a',b',c'⟩|⟨a',b',c'⟩|⟨a',b',c'⟩|⟨a',b',c'⟩|⟨a',b',c'⟩<;>first|(exfalso;omega)|exact⟨by rw[b,b'],by rw[c,c']⟩
theorem GrOf.uniq{a a':List (List Int)}(h:GrOf l n kk a)(h':GrOf l n kk a'):a=a':=by
 obtain⟨P,k,h1,h2⟩:=h;obtain⟨P',k',h1',h2'⟩:=h';obtain⟨rfl,rfl⟩:=h1.uniq h1';rcases h2 with ⟨p,q⟩|⟨p,q⟩<;>rcases h2' with ⟨p',q'⟩|⟨p',q'⟩
 ·rw[q,q']
 ·exact absurd p p'
 ·exact absurd p' p
 ·rw[q,q']
def zeo(w:World)(n:Nat)(l:List Int)(kk:Int)(e:Ending)(w':World):Prop:=∃g a,e= .returned (.slice (some ⟨g,0,none⟩) n n)/\Mat64 w' (some ⟨g,0,none⟩) a/\Gm n a/\qf a/\GrOf l n kk a/\Ext w w'
set_option maxRecDepth 10000 in
theorem zh8{dim kind:Int}{NA:Option Addr}{nc most:Nat}{v3:Value}{te:TypeId}(hN:Ints w NA te .i8 l)(h8:I8 l)(hl:l.length<=9223372036854775807)(hd0:0<=dim)(hd1:dim<256)(hk0:0<=kind)(hk1:kind<256)(hm1:1<=most)(hm8:most<=8):
  Cq 36 #[.agg #[.int .u8 dim,.int .u8 kind,.slice NA l.length nc,v3],.int .i64 most] w (zeo w (1+(dim%most).toNat) l (kind%8)):=by
 have hmz:((most:Int)==0)=false:=by simp;omega
 have hdm:=Int.emod_nonneg dim ((aa:(most:Int)≠0));have zuo:=Int.emod_lt_of_pos dim ((aa:(0:Int)<most));have hdt:dim.tmod most=dim%most:=Int.tmod_eq_emod_of_nonneg hd0;have hdw:IntKind.i64.wrap dim=dim:=Iw;obtain⟨n,hn⟩:=Xz (1+(dim%most).toNat);rw[<-hn];have hne:1+dim%most=(n:Int):=aa
 have hn1:1<=n:=aa
 have hn8:n<=8:=aa
 have hnw:IntKind.i64.wrap (1+dim%most)=(n:Int):=by rw[hne];exact Iw
 have hkm:=Int.emod_nonneg kind ((aa:(8:Int)≠0));have zxr:=Int.emod_lt_of_pos kind ((aa:(0:Int)<8));have hkt:kind.tmod 8=kind%8:=Int.tmod_eq_emod_of_nonneg hk0;generalize kind%8=kk at*
 have hkw:IntKind.u8.wrap kk=kk:=by rw[IntKind.wrap_u8];omega
 have HN:=Zh hN;have hT0:TapeAt ((w.alloc (.cells #[.int .u8 dim,.int .u8 kind,.slice NA l.length nc,v3] 24)).alloc (.cells #[.slice NA l.length nc,.int .i64 0] 113)) (w.heap.size+1) l 0:=by
  refine⟨te,NA,nc,?_,hN.ext Zi,fun h0 a ha=>?_⟩
  ·rw[Nat.zero_min];have:=heap_alloc_new (w.alloc (.cells #[.int .u8 dim,.int .u8 kind,.slice NA l.length nc,v3] 24)) (.cells #[.slice NA l.length nc,.int .i64 0] 113);have e:(w.alloc (.cells #[.int .u8 dim,.int .u8 kind,.slice NA l.length nc,v3] 24)).heap.size=w.heap.size+1:=af
   rw[e]at this;exact this
  ·obtain⟨b,o,cs,fr,rfl,hb,hc⟩:=hN (by simpa using h0);injection ha with ha
   subst ha;have:=zi hb;simp only;omega
 have hx2:Ext w ((w.alloc (.cells #[.int .u8 dim,.int .u8 kind,.slice NA l.length nc,v3] 24)).alloc (.cells #[.slice NA l.length nc,.int .i64 0] 113)):=Zi;have ztv:((w.alloc (.cells #[.int .u8 dim,.int .u8 kind,.slice NA l.length nc,v3] 24)).alloc (.cells #[.slice NA l.length nc,.int .i64 0] 113)).heap.size=w.heap.size+2:=af
 clear hN hn HN;go_enter Tryz.func36,Tryz.ntmps36;go_upto_region 6 with fail
 generalize ((w.alloc (.cells #[.int .u8 dim,.int .u8 kind,.slice NA l.length nc,v3] 24)).alloc (.cells #[.slice NA l.length nc,.int .i64 0] 113))=w2 at*
 have HT0:=Zh hT0;have HGD:Hid (∀(W:World)g hs a,P64 W (w.heap.size+2) g n n hs a->a.length=n->SmM a->∃s:Bool,((s=true->Gm n a/\zcC a)/\(s=false->¬zcC a))/\Cq 80 #[.slice (some ⟨g,0,none⟩) n n] W (zA W (.bool s))):=Zh (fun W g hs a hP hL hS=>by
  obtain⟨s,hs⟩:∃s:Bool,s=true↔j8 a/\detF a<=10000:=⟨@decide (j8 a/\detF a<=10000) (Classical.propDecidable _),af⟩;refine⟨s,⟨fun hst=>⟨?_,hs.1 hst⟩,fun hst hg=>by rw[hs.2 hg]at hst;cases hst⟩,zoy s hs (hP.mat hL aa) hL hn1 hn8 hP.all (hS.fits hP.all) hS.bd⟩;obtain⟨⟨h1,h2⟩,h3⟩:=hs.1 hst;exact znw hn1 hn8 hL hP.all (by rw[hL]at h1;exact h1) h2 h3 hS.bd)
 have HDG:Hid (∀(W:World)(k most:Nat),TapeAt W (w.heap.size+1) l k->1<=most->most<=1000->Cq 79 #[.pointer (some ⟨w.heap.size+1,0,none⟩),.int .i64 n,.int .i64 most] W (zcw W (w.heap.size+1) l (k+n) n (ZQ l k n most))):=Zh (fun W k most hT h1 h2=>zhJ hT h8 hl aa h1 h2);have HGN:Hid (∀(W:World)(k:Nat),TapeAt W (w.heap.size+1) l k->Cq 76 #[.pointer (some ⟨w.heap.size+1,0,none⟩),.int .i64 n] W (zcw W (w.heap.size+1) l (k+n+qC n) n (zbp l k n))):=Zh (fun W k hT=>zot hT h8 hl aa)
 have HCH:Hid (∀(W:World)(f:Bool),Cq 77 #[.int .i64 n,.bool f] W (zhL W n (qm f n))):=Zh (fun W f=>zox f aa);have HBL:Hid (∀(W:World)(k m:Nat),TapeAt W (w.heap.size+1) l k->1<=m->m<=1000->Cq 78 #[.pointer (some ⟨w.heap.size+1,0,none⟩),.int .i64 m] W (zaE W (w.heap.size+1) l (k+1) (.int .i64 (l.getD k 0%256%m)))):=Zh (fun W k m hT h1 h2=>zhH hT h8 hl h1 h2);clear hT0 h8 hne hnw hdt hdw hdm zuo hd0 hd1 hmz hkt hkw hk0 hk1
 have ztx:(kk=0∨kk=1∨kk=2∨kk=3)∨kk=4∨kk=5∨kk=6∨kk=7:=aa
 clear hkm zxr;have HTail:Hid True:=Zh trivial;rcases ztx with hc|rfl|rfl|rfl|rfl
 ·rcases hc with rfl|rfl|rfl|rfl
  all_goals
   go_upto_region 19 with (go_at_call 76;refine(HGN.out _ 0 (HT0.out.ext Zi)).mono ?_;rintro e w3 ⟨g,hs,rfl,hP,hL,hT3,hO3⟩)
   have hP2:=hP.lower (lo':=w.heap.size+2) (by have:=hx2.size;omega);have HSM:=Zh (zoz l 0 n);have zrP:Hid (∀kk:Int,kk<=3->PreOf l n kk (zbp l 0 n) (0+n+qC n)):=Zh (fun kk hk=> .inl ⟨hk,rfl,rfl⟩);obtain⟨s,hsg,hC⟩:=HGD.out w3 g hs _ hP2 hL HSM.out;have zsR:=hO3.ext hx2 ((aa:w.heap.size<=w.heap.size+1));have HC:=Zh hC;have HS:=Zh hsg;have HPx:=Zh hP2;have HLx:=Zh hL;have HTx:=Zh hT3;clear hC hsg hP2 hP hL hT3 hO3
   cases s
   ·go_wp2_with (first
     |(go_at_call 80;refine HC.out.mono ?_;rintro e w4 ⟨rfl,hs4⟩)
     |(go_at_call 79;refine(HDG.out w4 _ 2 (HTx.out.ext Zi) aa aa).mono ?_;rintro e w5 ⟨g5,hs5,rfl,hP5,hL5,hT5,hO5⟩))
    go_ret;exact⟨g5,_,rfl,hP5.mat hL5 aa,zbq _ _ _ hn1 hn8,(J0 _ _ _ 2 aa aa).fits hP5.all,⟨_,_,zrP.out _ aa,.inr ⟨HS.out.2 af,rfl⟩⟩,hO5.ext Zi aa⟩
   ·go_wp2_with (go_at_call 80;refine HC.out.mono ?_;rintro e w4 ⟨rfl,hs4⟩)
    go_ret;exact⟨g,_,rfl,(HPx.out.ext Zi).mat HLx.out aa,(HS.out.1 af).1,HSM.out.fits HPx.out.all,⟨_,_,zrP.out _ aa,.inl ⟨(HS.out.1 af).2,rfl⟩⟩,Zi⟩
 ·go_upto_region 13 with (go_at_call 77;refine(HCH.out _ _).mono ?_;rintro e w3 ⟨g,hs,rfl,hP,hL,hx3⟩)
  have hP2:=hP.lower (lo':=w.heap.size+2) (by have:=hx2.size;omega);have hTa:TapeAt w3 (w.heap.size+1) l 0:=HT0.out.ext Zi;have hO0:Only (w.heap.size+1) w2 w3:=Only.of_ext hx3 aa;have hTl:=hTa.lt;have HTa:=Zh hTa;have HO0:=Zh hO0;have HP2:=Zh hP2;have hi0:0<(qm false n).length:=by rw[hL];omega
  obtain⟨b,hb,c1,c2,c3,c4,c5⟩:=hP2.hdr (i:=0) hi0;obtain⟨d1,d2⟩:=hP2.entry (i:=0) (j:=0) hb hi0 aa;have hv:=zhN false n 0 0;have HB:Hid (∀W,Ext w3 W->Cq 78 #[.pointer (some ⟨w.heap.size+1,0,none⟩),.int .i64 ((3:Nat):Int)] W (zaE W (w.heap.size+1) l 1 (.int .i64 (l.getD 0 0%256%((3:Nat):Int))))):=Zh (fun W e=>HBL.out W 0 3 (hTa.ext e) aa aa);have hz0:0<=l.getD 0 0%256%((3:Nat):Int)/\l.getD 0 0%256%((3:Nat):Int)<=2:=aa
  have HBD:=Zh hb;have zrG:=Zh (zhM false n);have HAL:=Zh hP2.all;have HLL:=Zh hL;have zrn:Hid (PreOf l n 4 (zI (qm false n) 0 0 (ent (qm false n) 0 0+l.getD 0 0%256%((3:Nat):Int))) 1):=Zh (.inr (.inl ⟨rfl,rfl,rfl⟩));generalize hve:ent (qm false n) 0 0=v at*
  have HE:=Zh hve;clear hve;generalize l.getD 0 0%256%((3:Nat):Int)=z at*
  generalize qm false n=a at*
  have hvw:IntKind.i64.wrap (v+z)=v+z:=Iw;have hnz:(0:Int)<n:=aa
  clear hP hP2 hL hTa hO0 hb;go_region_with (go_at_call 78;refine(HB.out _ Zi).mono ?_;rintro e w5 ⟨rfl,hT5,hO5'⟩;have hO5:Only (w.heap.size+1) w3 w5:=(Only.of_ext Zi (Nat.le_of_lt hTl)).trans hO5';obtain⟨b',e1,f1,f2,f3,f4,-⟩:=(HP2.out.only hO5 aa).hdr (i:=0) hi0;rw[HBD.out]at e1;injection e1 with e1;subst e1;obtain⟨g1,g2⟩:=(HP2.out.only hO5 aa).entry (i:=0) (j:=0) HBD.out hi0 aa;rw[HE.out]at g1)
  all_goals
   have hTl5:w.heap.size+1<w5.heap.size:=hT5.lt;obtain⟨wc,hwc⟩:∃x,x=w5.setCell ⟨b,0,none⟩ (.int .i64 (v+z)):=⟨_,rfl⟩;have hP2:=(HP2.out.only hO5 aa).set HBD.out hi0 aa (v+z);have hT3:TapeAt wc (w.heap.size+1) l 1:=by
    rw[hwc];exact hT5.only fun x hx=>Below.heap_setCell _ ⟨b,0,none⟩ _ x (by simp;omega)
   have hO3:Only (w.heap.size+1) w2 wc:=by
    rw[hwc];exact(HO0.out.trans hO5).setNew (p:=⟨b,0,none⟩) (by simp;omega) aa _
   have hL:(zI a 0 0 (v+z)).length=n:=by rw[j6];exact HLL.out
   have HSM:=Zh (zrG.out.set HAL.out hi0 aa (z:=v+z) aa);go_upto_region 19 with fail
   rw[<-hwc];rw[<-hwc]at hP2;clear hwc hT5 hO5 hO5' f1 f2 f3 f4 g1 g2;have hP:=hP2;obtain⟨s,hsg,hC⟩:=HGD.out wc g hs _ hP2 hL HSM.out;have zsR:=hO3.ext hx2 ((aa:w.heap.size<=w.heap.size+1));have HC:=Zh hC;have HS:=Zh hsg;have HPx:=Zh hP2;have HLx:=Zh hL;have HTx:=Zh hT3;clear hC hsg hP2 hP hL hT3 hO3
   cases s
   ·go_wp2_with (first
     |(go_at_call 80;refine HC.out.mono ?_;rintro e w4 ⟨rfl,hs4⟩)
     |(go_at_call 79;refine(HDG.out w4 _ 2 (HTx.out.ext Zi) aa aa).mono ?_;rintro e w5 ⟨g5,hs5,rfl,hP5,hL5,hT5,hO5⟩))
    go_ret;exact⟨g5,_,rfl,hP5.mat hL5 aa,zbq _ _ _ hn1 hn8,(J0 _ _ _ 2 aa aa).fits hP5.all,⟨_,_,zrn.out,.inr ⟨HS.out.2 af,rfl⟩⟩,hO5.ext Zi aa⟩
   ·go_wp2_with (go_at_call 80;refine HC.out.mono ?_;rintro e w4 ⟨rfl,hs4⟩)
    go_ret;exact⟨g,_,rfl,(HPx.out.ext Zi).mat HLx.out aa,(HS.out.1 af).1,HSM.out.fits HPx.out.all,⟨_,_,zrn.out,.inl ⟨(HS.out.1 af).2,rfl⟩⟩,Zi⟩
 ·go_upto_region 16 with (go_at_call 77;refine(HCH.out _ _).mono ?_;rintro e w3 ⟨g,hs,rfl,hP,hL,hx3⟩)
  have hP2:=hP.lower (lo':=w.heap.size+2) (by have:=hx2.size;omega);have hTa:TapeAt w3 (w.heap.size+1) l 0:=HT0.out.ext Zi;have hO0:Only (w.heap.size+1) w2 w3:=Only.of_ext hx3 aa;have hTl:=hTa.lt;have HTa:=Zh hTa;have HO0:=Zh hO0;have HP2:=Zh hP2;obtain⟨p,hp⟩:∃p,p+1=n:=⟨n-1,aa⟩;have hnp:(n:Int)-1=(p:Int):=aa
  have zyt:IntKind.i64.wrap ((n:Int)-1)=(p:Int):=by rw[hnp];exact Iw
  have hi0:p<(qm true n).length:=by rw[hL];omega
  obtain⟨b,hb,c1,c2,c3,c4,c5⟩:=hP2.hdr (i:=p) hi0;obtain⟨d1,d2⟩:=hP2.entry (i:=p) (j:=p) hb hi0 aa;have hv:=zhN true n p p;have HB:Hid (∀W,Ext w3 W->Cq 78 #[.pointer (some ⟨w.heap.size+1,0,none⟩),.int .i64 ((2:Nat):Int)] W (zaE W (w.heap.size+1) l 1 (.int .i64 (l.getD 0 0%256%((2:Nat):Int))))):=Zh (fun W e=>HBL.out W 0 2 (hTa.ext e) aa aa);have hz0:0<=l.getD 0 0%256%((2:Nat):Int)/\l.getD 0 0%256%((2:Nat):Int)<=2:=aa
  have HBD:=Zh hb;have zrG:=Zh (zhM true n);have HAL:=Zh hP2.all;have HLL:=Zh hL;have zrn:Hid (PreOf l n 5 (zI (qm true n) p p (ent (qm true n) p p+l.getD 0 0%256%((2:Nat):Int))) 1):=Zh (.inr (.inr (.inl ⟨rfl,by rw[(aa:n-1=p)],rfl⟩)));generalize hve:ent (qm true n) p p=v at*
  have HE:=Zh hve;clear hve;generalize l.getD 0 0%256%((2:Nat):Int)=z at*
  generalize qm true n=a at*
  have hvw:IntKind.i64.wrap (v+z)=v+z:=Iw;have hnz:(p:Int)<n:=aa
  have hpp:p<n:=aa
  have hpw:IntKind.i64.wrap (p:Int)=(p:Int):=Iw;clear hP hP2 hL hTa hO0 hb;go_region_with (go_at_call 78;refine(HB.out _ Zi).mono ?_;rintro e w5 ⟨rfl,hT5,hO5'⟩;have hO5:Only (w.heap.size+1) w3 w5:=(Only.of_ext Zi (Nat.le_of_lt hTl)).trans hO5';obtain⟨b',e1,f1,f2,f3,f4,-⟩:=(HP2.out.only hO5 aa).hdr (i:=p) hi0;rw[HBD.out]at e1;injection e1 with e1;subst e1;obtain⟨g1,g2⟩:=(HP2.out.only hO5 aa).entry (i:=p) (j:=p) HBD.out hi0 aa;rw[HE.out]at g1)
  all_goals
   have hTl5:w.heap.size+1<w5.heap.size:=hT5.lt;obtain⟨wc,hwc⟩:∃x,x=w5.setCell ⟨b,p,none⟩ (.int .i64 (v+z)):=⟨_,rfl⟩;have hP2:=(HP2.out.only hO5 aa).set HBD.out hi0 aa (v+z);have hT3:TapeAt wc (w.heap.size+1) l 1:=by
    rw[hwc];exact hT5.only fun x hx=>Below.heap_setCell _ ⟨b,p,none⟩ _ x (by simp;omega)
   have hO3:Only (w.heap.size+1) w2 wc:=by
    rw[hwc];exact(HO0.out.trans hO5).setNew (p:=⟨b,p,none⟩) (by simp;omega) aa _
   have hL:(zI a p p (v+z)).length=n:=by rw[j6];exact HLL.out
   have HSM:=Zh (zrG.out.set HAL.out hi0 aa (z:=v+z) aa);go_upto_region 19 with fail
   rw[<-hwc];rw[<-hwc]at hP2;clear hwc hT5 hO5 hO5' f1 f2 f3 f4 g1 g2;have hP:=hP2;obtain⟨s,hsg,hC⟩:=HGD.out wc g hs _ hP2 hL HSM.out;have zsR:=hO3.ext hx2 ((aa:w.heap.size<=w.heap.size+1));have HC:=Zh hC;have HS:=Zh hsg;have HPx:=Zh hP2;have HLx:=Zh hL;have HTx:=Zh hT3;clear hC hsg hP2 hP hL hT3 hO3
   cases s
   ·go_wp2_with (first
     |(go_at_call 80;refine HC.out.mono ?_;rintro e w4 ⟨rfl,hs4⟩)
     |(go_at_call 79;refine(HDG.out w4 _ 2 (HTx.out.ext Zi) aa aa).mono ?_;rintro e w5 ⟨g5,hs5,rfl,hP5,hL5,hT5,hO5⟩))
    go_ret;exact⟨g5,_,rfl,hP5.mat hL5 aa,zbq _ _ _ hn1 hn8,(J0 _ _ _ 2 aa aa).fits hP5.all,⟨_,_,zrn.out,.inr ⟨HS.out.2 af,rfl⟩⟩,hO5.ext Zi aa⟩
   ·go_wp2_with (go_at_call 80;refine HC.out.mono ?_;rintro e w4 ⟨rfl,hs4⟩)
    go_ret;exact⟨g,_,rfl,(HPx.out.ext Zi).mat HLx.out aa,(HS.out.1 af).1,HSM.out.fits HPx.out.all,⟨_,_,zrn.out,.inl ⟨(HS.out.1 af).2,rfl⟩⟩,Zi⟩
 ·go_upto_region 19 with (go_at_call 79;refine(HDG.out _ 0 9 (HT0.out.ext Zi) aa aa).mono ?_;rintro e w3 ⟨g,hs,rfl,hP,hL,hT3,hO3⟩)
  have hP2:=hP.lower (lo':=w.heap.size+2) (by have:=hx2.size;omega);have HSM:=Zh (J0 l 0 n 9 aa aa);have zrn:Hid (PreOf l n 6 (ZQ l 0 n 9) (0+n)):=Zh (.inr (.inr (.inr (.inl ⟨rfl,rfl,rfl⟩))));obtain⟨s,hsg,hC⟩:=HGD.out w3 g hs _ hP2 hL HSM.out;have zsR:=hO3.ext hx2 ((aa:w.heap.size<=w.heap.size+1));have HC:=Zh hC;have HS:=Zh hsg;have HPx:=Zh hP2;have HLx:=Zh hL;have HTx:=Zh hT3
  clear hC hsg hP2 hP hL hT3 hO3
  cases s
  ·go_wp2_with (first
    |(go_at_call 80;refine HC.out.mono ?_;rintro e w4 ⟨rfl,hs4⟩)
    |(go_at_call 79;refine(HDG.out w4 _ 2 (HTx.out.ext Zi) aa aa).mono ?_;rintro e w5 ⟨g5,hs5,rfl,hP5,hL5,hT5,hO5⟩))
   go_ret;exact⟨g5,_,rfl,hP5.mat hL5 aa,zbq _ _ _ hn1 hn8,(J0 _ _ _ 2 aa aa).fits hP5.all,⟨_,_,zrn.out,.inr ⟨HS.out.2 af,rfl⟩⟩,hO5.ext Zi aa⟩
  ·go_wp2_with (go_at_call 80;refine HC.out.mono ?_;rintro e w4 ⟨rfl,hs4⟩)
   go_ret;exact⟨g,_,rfl,(HPx.out.ext Zi).mat HLx.out aa,(HS.out.1 af).1,HSM.out.fits HPx.out.all,⟨_,_,zrn.out,.inl ⟨(HS.out.1 af).2,rfl⟩⟩,Zi⟩
 ·go_upto_region 19 with (go_at_call 79;refine(HDG.out _ 0 1 (HT0.out.ext Zi) aa aa).mono ?_;rintro e w3 ⟨g,hs,rfl,hP,hL,hT3,hO3⟩)
  have hP2:=hP.lower (lo':=w.heap.size+2) (by have:=hx2.size;omega);have HSM:=Zh (J0 l 0 n 1 aa aa);have zrn:Hid (PreOf l n 7 (ZQ l 0 n 1) (0+n)):=Zh (.inr (.inr (.inr (.inr ⟨rfl,rfl,rfl⟩))));obtain⟨s,hsg,hC⟩:=HGD.out w3 g hs _ hP2 hL HSM.out;have zsR:=hO3.ext hx2 ((aa:w.heap.size<=w.heap.size+1));have HC:=Zh hC;have HS:=Zh hsg;have HPx:=Zh hP2;have HLx:=Zh hL;have HTx:=Zh hT3
  clear hC hsg hP2 hP hL hT3 hO3
  cases s
  ·go_wp2_with (first
    |(go_at_call 80;refine HC.out.mono ?_;rintro e w4 ⟨rfl,hs4⟩)
    |(go_at_call 79;refine(HDG.out w4 _ 2 (HTx.out.ext Zi) aa aa).mono ?_;rintro e w5 ⟨g5,hs5,rfl,hP5,hL5,hT5,hO5⟩))
   go_ret;exact⟨g5,_,rfl,hP5.mat hL5 aa,zbq _ _ _ hn1 hn8,(J0 _ _ _ 2 aa aa).fits hP5.all,⟨_,_,zrn.out,.inr ⟨HS.out.2 af,rfl⟩⟩,hO5.ext Zi aa⟩
  ·go_wp2_with (go_at_call 80;refine HC.out.mono ?_;rintro e w4 ⟨rfl,hs4⟩)
   go_ret;exact⟨g,_,rfl,(HPx.out.ext Zi).mat HLx.out aa,(HS.out.1 af).1,HSM.out.fits HPx.out.all,⟨_,_,zrn.out,.inl ⟨(HS.out.1 af).2,rfl⟩⟩,Zi⟩
end
section
open La
def Dz(n:Nat)(g t:Nat->Nat->Int)(x y:Nat):Int:=zj n fun q=>(zj n fun p=>t p x*g p q)*t q y
def qP(n:Nat)(f:Nat->Nat->Int):Nat->Nat->Int:=fun x y=>if x<n/\y<n then f x y else 0
def UOK(n:Nat)(t:Nat->Nat->Int):Prop:=∀g:Nat->Nat->Int,(∀x y,n<=x∨n<=y->g x y=0)->Bs n g (qP n (Dz n g t))
theorem zpc(g:Nat->Nat->Int)(h:∀p x,p<n->x<n->t p x=t' p x){x y:Nat}(hx:x<n)(hy:y<n):Dz n g t x y=Dz n g t' x y:=by
 refine zT fun q hq=>?_
 rw[h q y hq hy];congr 1
 exact zT fun p hp=>by grind
theorem UOK.congr(h:UOK n t)(he:∀p x,p<n->x<n->t p x=t' p x):UOK n t':=fun g hg=>by
 have e:qP n (Dz n g t')=qP n (Dz n g t):=by
  funext x y
  unfold qP;split
  ·rename_i hxy
   exact(zpc g he hxy.1 hxy.2).symm
  ·rfl
 rw[e];exact h g hg
theorem UOK.one(n:Nat):UOK n fun p x=>if p=x then 1 else 0:=fun g hg=>by
 have e:qP n (Dz n g fun p x=>if p=x then 1 else 0)=g:=by
  funext x y
  unfold qP;split
  ·rename_i hxy
   show (zj n fun q=>(zj n fun p=>(if p=x then 1 else 0)*g p q)*(if q=y then 1 else 0))=g x y;rw[QJ hxy.2 (fun q _ hne=>ae),if_pos rfl,Int.mul_one];rw[QJ hxy.1 (fun p _ hne=>ae),if_pos rfl,Int.one_mul]
  grind
 rw[e];exact .refl
theorem zaI(n:Nat)(F G:Nat->Int):(zj n fun i=>F i+G i)=zj n F+zj n G:=by
 induction n with
 |zero=>simp[zj]
 |succ n ih=>rw[Zx,ih,Zx,Zx];omega
theorem UOK.add(c:Int)(h:UOK n t)(hi:i<n)(hj:j<n)(hne:i≠j):UOK n fun p x=>if x=i then t p i+c*t p j else t p x:=fun g hg=>by
 have e:qP n (Dz n g fun p x=>if x=i then t p i+c*t p j else t p x)=qN i j (-c) (qP n (Dz n g t)):=by
  funext x y
  have e1:∀x q,(zj n fun p=>(if x=i then t p i+c*t p j else t p x)*g p q)=(zj n fun p=>t p x*g p q)+(if x=i then c*zj n (fun p=>t p j*g p q) else 0):=fun x q=>by
   by_cases hx:x=i
   ·subst hx;simp only[if_true];rw[<-jR,<-zaI];exact zT fun p _=>by grind
   ·simp only[if_neg hx];omega
  have e2:∀x y,Dz n g (fun p x=>if x=i then t p i+c*t p j else t p x) x y=(Dz n g t x y+(if x=i then c*Dz n g t j y else 0))+(if y=i then c*(Dz n g t x j+(if x=i then c*Dz n g t j j else 0)) else 0):=fun x y=>by
   unfold Dz;simp only[e1];by_cases hx:x=i
   ·by_cases hy:y=i
    ·simp only[if_pos hx,if_pos hy];rw[<-jR,<-jR,<-zaI,<-zaI,<-jR,<-zaI];exact zT fun p _=>by rw[hy];grind
    ·simp only[if_pos hx,if_neg hy];rw[<-jR,<-zaI,Int.add_zero];exact zT fun p _=>by grind
   ·by_cases hy:y=i
    ·simp only[if_neg hx,if_pos hy];rw[Int.add_zero,Int.add_zero,<-jR,<-zaI];exact zT fun p _=>by rw[hy];grind
    ·simp only[if_neg hx,if_neg hy,Int.add_zero]
  unfold qP qN;grind
 rw[e];exact(h g hg).add (-c) hi hj hne
theorem zpd{x:Nat}(hi:i<n)(hj:j<n):La.tr i j x<n↔x<n:=by unfold La.tr;grind
theorem UOK.swap(h:UOK n t)(hi:i<n)(hj:j<n)(hne:i≠j):UOK n fun p x=>t p (La.tr i j x):=fun g hg=>by
 have e:qP n (Dz n g fun p x=>t p (La.tr i j x))=Qx i j (qP n (Dz n g t)):=by
  unfold qP Qx;simp only[zpd hi hj];rfl
 rw[e];exact(h g hg).tr hi hj hne
theorem UOK.neg(h:UOK n t)(hi:i<n):UOK n fun p x=>if x=i then-t p x else t p x:=fun g hg=>by
 have e:qP n (Dz n g fun p x=>if x=i then-t p x else t p x)=jt i (qP n (Dz n g t)):=by
  funext x y
  have e1:∀p x,(if x=i then-t p x else t p x)=Z9 i x*t p x:=fun p x=>by unfold Z9;grind
  unfold qP jt;by_cases hxy:x<n/\y<n
  ·simp only[if_pos hxy];unfold Dz;rw[<-jR];refine zT fun q _=>?_
   have:(zj n fun p=>Z9 i x*t p x*g p q)=Z9 i x*zj n fun p=>t p x*g p q:=by
    rw[<-jR];grind
   grind
  grind
 rw[e];exact(h g hg).ng i hi
theorem zpe{a:List (List Int)}:ent (Zb n a u)=qP n (Dz n (ent a) (ent u)):=by
 funext x y
 unfold qP;split
 ·rename_i h
  exact zdQ h.1 h.2
 ·exact zdS aa
def jS(i j:Nat)(c:Int)(f:Nat->Nat->Int):Nat->Nat->Int:=fun p x=>
 if i=j then (if c<0 then (if x=i then-f p x else f p x) else f p x)
 else if c=0 then f p (La.tr i j x) else (if x=i then f p i+c*f p j else f p x)
theorem UOK.step(c:Int)(h:UOK n t)(hi:i<n)(hj:j<n):UOK n (jS i j c t):=by
 unfold jS;by_cases hij:i=j
 ·by_cases hc:c<0
  ·simp only[if_pos hij,if_pos hc];exact h.neg hi
  ·simp only[if_pos hij,if_neg hc];exact h
 ·by_cases hc:c=0
  ·simp only[if_neg hij,if_pos hc];exact h.swap hi hj hij
  ·simp only[if_neg hij,if_neg hc];exact h.add c hi hj hij
theorem zpf{c B:Int}(hc:-2<=c/\c<=2)(h:∀p x,-B<=f p x/\f p x<=B)(p x:Nat):-(3*B)<=jS i j c f p x/\jS i j c f p x<=3*B:=by
 have h3:=h p j;unfold jS;have h5:-(2*B)<=c*f p j/\c*f p j<=2*B:=by
  rcases(aa:c=-2∨c=-1∨c=0∨c=1∨c=2) with rfl|rfl|rfl|rfl|rfl<;>omega
 grind
theorem Gm.cong{a:List (List Int)}(g:Gm n a)(hu:UOK n (ent u))(hbd:BdM 199 (Zb n a u)):Gm n (Zb n a u)/\Bs n (ent a) (ent (Zb n a u)):=by
 have hb:Bs n (ent a) (ent (Zb n a u)):=by
  rw[zpe];exact hu _ fun x y hxy=>qL g.all (by rw[g.len];grind)
 have hs:=QX (by have:=g.all;rw[<-g.len]at this;grind) (fun i j hi hj=>g.sym i j (by rw[<-g.len];grind) (by rw[<-g.len];grind));obtain⟨h1,h2,h3⟩:=hb.ok hs g.pos;refine⟨⟨g.n1,g.n8,zaw _ _ _,zbd _ _ _,fun i j _ _=>?_,h2,?_,hbd⟩,hb⟩
 ·have:=h1 i j;simpa[zf] using this
 ·have hn:=g.n1;have d1:=(ZX (ent a) n g.pos.piv).2.1;have d2:=(ZX (ent (Zb n a u)) n h2.piv).2.1;have e:zF (ent (Zb n a u)) n=zF (ent a) n:=by
   have:((zF (ent (Zb n a u)) n:Int):Rat)=((zF (ent a) n:Int):Rat):=ae
   exact Rat.intCast_inj.1 this
  obtain⟨k,rfl⟩:∃k,n=k+1:=⟨n-1,aa⟩;have g1:=g.det;have e2:E (ent (Zb (k+1) a u)) k k k=E (ent a) k k k:=e;grind
end
end Go.Proofs.YtgoaelchibpffaaGreat

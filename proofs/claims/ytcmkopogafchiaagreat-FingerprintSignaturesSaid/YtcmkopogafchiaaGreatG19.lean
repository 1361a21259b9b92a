import Derived.Test.YtcmkopogafchiaaGreatG17
set_option maxHeartbeats 8000000
set_option linter.unusedVariables false
set_option linter.unusedSimpArgs false
namespace Go.Proofs.YtcmkopogafchiaaGreat
open List (pairwise_cons mem_cons getElem_mem)
variable {b z:Int} {m:List (List Int)} {x y:List Int} {vs:List Value} {c d e' i k n q:Nat} {A B C:Option Addr} {w w0 w1 w2:World}
section
open Go.RowKit
open La
theorem zn3{b:Nat}(h:MatV w0 A m)(h1:m.length=n)(h3:1<=n)(h4:n<=8)(hn:AllLen m n)(hb:BdM b m)(hb1:1<=b)(hbb:b<=1000000)(hp:Pos (zg (ent m)) n)(hs:Sym (zg (ent m)))(hfu:∀r,r<n->Qs (zg (ent m)) r)(hlo:∀p,p+1<n->qv (zg (ent m)) p)[hx:Ext w0 w]:
  Cq 133 #[.slice A n c] w (zy w (.bool true)):=by
 have h0:=h.ext hx;have HLE:=Zh (fun W(e1:Ext w W)=>zbj (w:=W) (c:=c) h0 h1 h3 h4 hn hb hb1 hbb);have HLL:Hid ((zv m).length=n):=Zh (by rw[QJ];exact h1);have HSZ:Hid (∀(W1 W:World)(B:Option Addr)(d i j:Nat),i<n->j<i->IntsV W1 B (zv m)->Ext w W->Ext W1 W->Cq 140 #[.slice A n c,.slice B n d,.int .i64 i,.int .i64 j] W (zy W (.bool true))):=Zh (fun W1 W B d i j hi hj hI e1 e2=>by
  have:=zhm (w:=W) (c:=c) (d:=d) h0 hI h1 h4 hn hb hb1 hbb hi (show j<n by omega);rwa [decide_eq_true ((zhr h1 hp (show j<n by omega)).2 (hfu i hi j hj))]at this)
 have HLV:Hid (∀(W1 W:World)(B:Option Addr)(d i:Nat),i<n->1<=i->IntsV W1 B (zv m)->Ext w W->Ext W1 W->Cq 144 #[.slice A n c,.slice B n d,.int .i64 i] W (zy W (.bool true))):=Zh (fun W1 W B d i hi hi1 hI e1 e2=>by
  have:=zhn (w:=W) (c:=c) (d:=d) h0 hI h1 h4 hn hb hb1 hbb hi hi1;obtain⟨p,rfl⟩:∃p,i=p+1:=⟨i-1,by omega⟩;rwa [decide_eq_true ((zhs h1 hp hs hi).2 (hlo p hi))]at this)
 clear hn hb hp hs h1 hfu hlo;go_enter Tryz.func133,Tryz.ntmps133;go_wp2_with (go_at_call 71;refine(HLE.out _ Zi).mono ?_;rintro e w1 ⟨BD,dD,rfl,hI1,-,-,hs1⟩;rw[HLL.out];have HI:=Zh hI1;clear hI1)
 have zsN:Ext w w1:=Zi;go_loopw [5,6,14] (fun _ _ i wr=>∃k:Nat,k<=n/\i= .int .i64 k/\Ext w1 wr) (fun _ _ i _=>n-(intOf i).toNat)
 case atStart=>exact⟨0,by omega,rfl,Zi⟩
 case round=>
  obtain⟨k,hk,rfl,hxr⟩:=hrel;by_cases hlt:k<n
  ·go_wp2_with fail
   go_loopw [6] (fun s6 wr=>∃q:Nat,q<=k/\s6= .int .i64 q/\Ext w1 wr) (fun s6 _=>k-(intOf s6).toNat)
   case atStart=>exact⟨0,by omega,rfl,Zi⟩
   case round=>
    obtain⟨q,hq,rfl,hxq⟩:=hrel;have zsz:Ext w wr:=zsN.trans hxq;by_cases hqk:q<k
    ·have HSB:=Zh (fun W(e1:Ext wr W)=>HSZ.out w1 W BD dD k q hlt hqk HI.out (zsz.trans e1) (hxq.trans e1));go_wp2_with (go_at_call 140;refine(HSB.out _ Zi).mono ?_;rintro e w6 ⟨rfl,hs6⟩)
     exact⟨⟨q+1,by omega,by go_num,Zi⟩,by simp[intOf]<;>omega⟩
    ·by_cases hk0:k=0
     ·subst hk0;go_wp2_with fail
      exact⟨⟨1,by omega,rfl,hxq⟩,by simp[intOf]<;>omega⟩
     ·have HLB:=Zh (fun W(e1:Ext wr W)=>HLV.out w1 W BD dD k hlt (by omega) HI.out (zsz.trans e1) (hxq.trans e1));have hgt:decide ((0:Int)<(k:Int))=true:=by simp;omega
      have zwR:0<k:=by omega
      have zwS:(0:Int)<(k:Int):=by omega
      clear hk0;go_wp2_with (go_at_call 144;refine(HLB.out _ Zi).mono ?_;rintro e w6 ⟨rfl,hs6⟩)
      exact⟨⟨k+1,by omega,by go_num,Zi⟩,by simp[intOf]<;>omega⟩
  ·have zse:Ext w wr:=zsN.trans hxr;go_wp2_with fail
   go_ret;exact⟨rfl,⟨zse.below⟩⟩
theorem LLLed.val(h:LLLed m):jY m:=⟨fun i hi j hj=>h.sym i j hi (by omega),zdy.2 h.pos⟩
theorem LLLed.detF(h:LLLed m):detF m<=10000:=by
 rw[zdx h.len1 (fun l hl=>by have:=qn h.pos (k:=l) (by omega);omega)];exact h.det
theorem LLLed.symO(h:LLLed m):Sym (zg (ent m)):=fun i j=>by
 by_cases hi:i<m.length
 ·by_cases hj:j<m.length
  ·unfold zg;rw[h.sym i j hi hj]
  ·unfold zg;rw[qM h.all (i:=i) (j:=j) (.inr (by omega)),qM h.all (i:=j) (j:=i) (.inl (by omega))]
 ·unfold zg;rw[qM h.all (i:=i) (j:=j) (.inl (by omega)),qM h.all (i:=j) (j:=i) (.inr (by omega))]
theorem zhC(h:MatA w0 A m)(hL:LLLed m)(h1:m.length=n)(h64:qP m)(hb:BdM 199 m)[hx:Ext w0 w]:
  Cq 79 #[.slice A n c] w (zy w (.bool true)):=by
 have h3:1<=n:=by rw[<-h1];exact hL.len1
 have h4:n<=8:=by rw[<-h1];exact hL.len8
 have hn:AllLen m n:=by rw[<-h1];exact hL.all
 have hp:Pos (zg (ent m)) n:=by rw[<-h1];exact hL.pos
 have HFI:Hid (∀W,Ext w W->Cq 95 #[.slice A n c] W (zbe W n m)):=Zh (fun W e=>by
  have:Ext w0 W:=hx.trans e;have:=zha (w:=W) (c:=c) h n (by omega) (by omega) h3 (by omega) hn h64;rwa [h1]at this)
 have HVA:Hid (∀(W1 W:World)(A1:Option Addr)(c1:Nat),MatV W1 A1 m->Ext W1 W->Cq 84 #[.slice A1 n c1] W (fun e w'=>∃v:Int,e= .returned (.int .i64 v)/\(v=0↔true=true)/\0<=v/\v<=5/\Step W w')):=Zh (fun W1 W A1 c1 hM e=>zd7 true (by simp[hL.val]) hM h1 h3 h4 hn hb (by omega) (by omega));have HSM:Hid (∀(W1 W:World)(A1:Option Addr)(c1:Nat),MatV W1 A1 m->Ext W1 W->Cq 85 #[.slice A1 n c1] W (zy W (.bool true))):=Zh (fun W1 W A1 c1 hM e=>by
  have:=zhl (w:=W) (c:=c1) hM h1 h3 h4 hn hb (by omega) (by omega);rwa [decide_eq_true hL.detF]at this)
 have HRE:Hid (∀(W1 W:World)(A1:Option Addr)(c1:Nat),MatV W1 A1 m->Ext W1 W->Cq 133 #[.slice A1 n c1] W (zy W (.bool true))):=Zh (fun W1 W A1 c1 hM e=>zn3 hM h1 h3 h4 hn hb (by omega) (by omega) hp hL.symO (fun r hr=>hL.full r (by omega)) (fun p hp=>hL.lov p (by omega)));have HL:=Zh h1;clear hn hb h64 h1 hp hL;go_enter Tryz.func79,Tryz.ntmps79;go_wp2_with (first
  |(go_at_call 95;refine(HFI.out _ Zi).mono ?_;rintro e w1 ⟨g1,zuH,c1,rfl,hO1,-,-,hs1⟩;rw[HL.out];have HM:=Zh hO1.mat;clear hO1)
  |(go_at_call 84;refine(HVA.out _ _ _ _ HM.out Zi).mono ?_;rintro e w2 ⟨v,rfl,hv,hv0,hv5,hs2⟩;have hvz:v=0:=(hv.2 (by trivial));subst hvz;clear hv hv0 hv5)
  |(go_at_call 85;refine(HSM.out _ _ _ _ HM.out Zi).mono ?_;rintro e w3 ⟨rfl,hs3⟩)
  |(go_at_call 133;refine(HRE.out _ _ _ _ HM.out Zi).mono ?_;rintro e w4 ⟨rfl,hs4⟩))
 go_ret;exact⟨rfl,Step.of _ _⟩
end
section
open La
def zL(m:List (List Int))(b:Int)(k:Nat)(t:List Int):Int:=zX (zm m m.length) (zr m m.length) k (left (ent m) b (k+1) t) t
def Za(m:List (List Int))(b:Int)(k:Nat)(t:List Int):Int:=Z4 (zm m m.length) (zr m m.length) k (left (ent m) b (k+1) t) t
def Z8(m:List (List Int))(b:Int)(k:Nat)(t:List Int):Nat:=(Za m b k t-zL m b k t+1).toNat
theorem zn4(h:0<zH x):zR x=x:=by unfold zR;rw[if_neg (by omega)]
theorem zn5(n:Nat)(F:Nat->Int):zu (n+1) F=F 0+zu n fun i=>F (i+1):=by
 induction n with
 |zero=>simp[zu]
 |succ n ih=>rw[qS,ih,qS];omega
theorem JW(g:Nat->Int)(t:List Int):∀k,ZP g k t=zu t.length fun i=>g (k+i)*t.getD i 0:=by
 induction t with
 |nil=>intro k;simp[ZP,zu]
 |cons c t ih=>
  intro k;rw[ZP,ih (k+1),List.length_cons,zn5];congr 1
  refine ZY fun i _=>?_
  rw[show k+1+i=k+(i+1) by omega];rfl
theorem zch(a:Int)(n:Nat)(F:Nat->Int):(zu n fun i=>a*F i)=a*zu n F:=by
 induction n with
 |zero=>simp[zu]
 |succ n ih=>rw[qS,ih,qS,Int.mul_add]
theorem zbm(n:Nat)(F G:Nat->Int):(zu n fun i=>F i+G i)=zu n F+zu n G:=by
 induction n with
 |zero=>simp[zu]
 |succ n ih=>rw[qS,ih,qS,qS];omega
def qB(m:List (List Int))(x y:List Int):Int:=zu m.length fun i=>x.getD i 0*zu m.length fun j=>ent m i j*y.getD j 0
theorem zbn(hn:AllLen m m.length)(x:List Int)(hx:x.length=m.length):qB m x x=zh m x:=by
 rw[zba hn x hx];unfold qB qE jH;rw[JW,hx];refine ZY fun i _=>?_
 simp only[Nat.zero_add];rw[JW,hx,Int.mul_comm];simp only[Nat.zero_add];rfl
theorem zn6(hr:RedOK m)(hk:k<m.length)(za:Int)(t:List Int):
  lE (ent m) k (0::t)*lE (ent m) k (0::t)-zx (ent m) (k+1)*(qE (ent m) k (0::t)-za*zx (ent m) k)=zx (ent m) k*left (ent m) za (k+1) t:=by
 have hs:Sym (zg (ent m)):=jh (qg hr.small) (fun i j hi hj=>((of_decide_eq_true hr.small).2.2.2 i hi j hj).1);have:=zdB hs (hr.pos.le (by omega:k+1<=m.length)) 0 t;unfold left;grind
def Zn(m:List (List Int))(b:Int):Nat->List Int->List (List Int)
 |0,t=>(List.range (Z8 m b 0 t)).map fun(j:Nat)=>(zL m b 0 t+(j:Int))::t
 |k+1,t=>(List.range (Z8 m b (k+1) t)).flatMap fun(j:Nat)=>Zn m b k ((zL m b (k+1) t+(j:Int))::t)
theorem zn7(hr:RedOK m)(x:List Int)(k:Nat):∀t:List Int,k<m.length->t.length=m.length-1-k->0<=left (ent m) b (k+1) t->
  (x∈Zn m b k t↔∃p:List Int,p.length=k+1/\x=p++t/\0<=left (ent m) b 0 x):=by
 induction k with
 |zero=>
  intro t hk ht h0;have hin:∀c,(zL m b 0 t<=c/\c<=Za m b 0 t)↔0<=left (ent m) b 0 (c::t):=fun c=>jV hr hk t ht h0 c
  rw[Zn];simp only[List.mem_map,List.mem_range];constructor
  ·rintro⟨j,hj,rfl⟩;unfold Z8 at hj;exact⟨[zL m b 0 t+(j:Int)],rfl,rfl,(hin _).1 ⟨by omega,by omega⟩⟩
  ·rintro⟨p,hp,rfl,h2⟩;obtain⟨c,rfl⟩:∃c,p=[c]:=List.length_eq_one_iff.1 hp;have h3:=(hin c).2 h2;refine⟨(c-zL m b 0 t).toNat,by unfold Z8;omega,?_⟩;rw[show zL m b 0 t+(((c-zL m b 0 t).toNat:Nat):Int)=c by omega];rfl
 |succ k ih=>
  intro t hk ht h0;have hin:∀c,(zL m b (k+1) t<=c/\c<=Za m b (k+1) t)↔0<=left (ent m) b (k+1) (c::t):=fun c=>jV hr hk t ht h0 c
  rw[Zn];simp only[List.mem_flatMap,List.mem_range];constructor
  ·rintro⟨j,hj,hx⟩;have hk0:0<=left (ent m) b (k+1) ((zL m b (k+1) t+(j:Int))::t):=jW hr t hk ht h0 (j:=j) hj;obtain⟨p,hp,rfl,h2⟩:=(ih _ (by omega) (by simp[ht];omega) hk0).1 hx;exact⟨p++[zL m b (k+1) t+(j:Int)],by simp[hp],by simp,h2⟩
  ·rintro⟨p,hp,rfl,h2⟩;obtain⟨q,c,rfl,hq⟩:=zb3 hp;have hs:=zgF hr b q 0 (c::t) (by simp[ht];omega) (by simpa using h2);rw[hq,Nat.zero_add]at hs;have hc:=(hin c).2 hs;refine⟨(c-zL m b (k+1) t).toNat,by unfold Z8;omega,?_⟩;have e:zL m b (k+1) t+(((c-zL m b (k+1) t).toNat:Nat):Int)=c:=by omega
   rw[e];exact(ih _ (by omega) (by simp[ht];omega) hs).2 ⟨q,hq,by simp,h2⟩
theorem zhD(hr:RedOK m)(hb:0<=b)(x:List Int):x∈Zn m b (m.length-1) []↔x.length=m.length/\zh m x<=b:=by
 have hl:=Qm hr.small;rw[zn7 hr x (m.length-1) [] (by omega) (by simp) (JR hr hb)];constructor
 ·rintro⟨p,hp,rfl,h2⟩;have hpl:(p++[]).length=m.length:=by simp[hp];omega
  rw[jI (qg hr.small) b _ hpl]at h2;exact⟨hpl,by omega⟩
 ·rintro⟨h1,h3⟩;refine⟨x,by omega,by simp,?_⟩;rw[jI (qg hr.small) b _ h1];omega
def Jo(p:Int×List Int):List Int:=p.1::p.2
def Zo(p q:Int×List Int):Bool:=decide (zB (Jo p) (Jo q)<0)
theorem zn8{p q:Int×List Int}(h:Jo p=Jo q):p=q:=by
 obtain⟨a,x⟩:=p;obtain⟨b,y⟩:=q;simpa[Jo] using h
theorem zn9{p q r:Int×List Int}(h1:Zo p q=true)(h2:Zo q r=true):Zo p r=true:=by
 unfold Zo at*
 rw[decide_eq_true_eq] at*
 exact zbZ _ _ _ h1 h2
theorem zoa{p q:Int×List Int}(h1:Zo p q=false)(h2:Zo q p=false):p=q:=by
 unfold Zo at*
 rw[decide_eq_false_iff_not] at*
 rw[Jf]at h2;exact zn8 (zal _ _ (by omega))
def Z9:List (Int×List Int)->Int×List Int->Nat
 |[],_=>0
 |y::l,x=>if Zo y x then Z9 l x+1 else 0
theorem zea:∀(l:List (Int×List Int))(x:Int×List Int)(k:Nat),(∀j y,j<k->l[j]? =some y->Zo y x=true)->k<=l.length->(∀y,l[k]? =some y->Zo y x=false)->Z9 l x=k
 |[],x,k,_,hk,_=>by simp at hk;simp[Z9,hk]
 |y::l,x,0,_,_,h=>by have:=h y rfl;simp[Z9,this]
 |y::l,x,k+1,h1,hk,h2=>by
  have e:=h1 0 y (by omega) rfl;rw[Z9,if_pos e,zea l x k (fun j z hj hz=>h1 (j+1) z (by omega) (by simpa using hz)) (by simpa using hk) (fun z hz=>h2 z (by simpa using hz))]
def Zj(l:List (Int×List Int))(x:Int×List Int):List (Int×List Int):=
 match l[Z9 l x]? with
 |some y=>if Zo x y then l.take (Z9 l x)++x::l.drop (Z9 l x) else l
 |none=>l++[x]
theorem zhE:∀(l:List (Int×List Int))(x:Int×List Int),l.Pairwise (fun p q=>Zo p q=true)->(Zj l x).Pairwise (fun p q=>Zo p q=true)/\∀y,y∈Zj l x↔y∈l∨y=x
 |[],x,_=>by simp[Zj,Z9]
 |y::l,x,h=>by
  by_cases hyx:Zo y x=true
  ·have hp:(y::l)[Z9 (y::l) x]? =l[Z9 l x]? :=by simp[Z9,hyx]
   have e:Zj (y::l) x=y::Zj l x:=by
    unfold Zj;rw[hp];simp only[Z9,if_pos hyx];split<;>simp
    split<;>simp
   rw[pairwise_cons]at h;obtain⟨h1,h2⟩:=zhE l x h.2;rw[e,pairwise_cons];refine⟨⟨fun z hz=>?_,h1⟩,fun z=>?_⟩
   ·rcases(h2 z).1 hz with hz|rfl
    ·exact h.1 z hz
    ·exact hyx
   ·simp only[mem_cons,h2];constructor
    ·rintro(h|h|h)
     ·exact .inl (.inl h)
     ·exact .inl (.inr h)
     ·exact .inr h
    ·rintro((h|h)|h)
     ·exact .inl h
     ·exact .inr (.inl h)
     ·exact .inr (.inr h)
  ·have e0:Z9 (y::l) x=0:=by simp[Z9,hyx]
   have e:Zj (y::l) x=if Zo x y then x::y::l else y::l:=by
    unfold Zj;rw[e0];simp
   rw[e];by_cases hxy:Zo x y=true
   ·rw[if_pos hxy];refine⟨pairwise_cons.2 ⟨fun z hz=>?_,h⟩,fun z=>?_⟩
    ·rcases mem_cons.1 hz with rfl|hz
     ·exact hxy
     ·exact zn9 hxy ((pairwise_cons.1 h).1 z hz)
    ·simp only[mem_cons];constructor
     ·rintro(h|h)
      ·exact .inr h
      ·exact .inl h
     ·rintro(h|h)
      ·exact .inr h
      ·exact .inl h
   ·rw[if_neg hxy];have hxe:=zoa (p:=y) (q:=x) (by simpa using hyx) (by simpa using hxy);subst hxe;refine⟨h,fun z=>?_⟩;simp only[mem_cons];constructor
    ·exact fun h=> .inl h
    ·rintro(h|h)
     ·exact h
     ·exact .inl h
def Zp(m:List (List Int))(xs:List (List Int)):List (Int×List Int):=
 xs.foldl (fun l x=>if 0<zH x then Zj l (zh m x,x) else l) []
theorem zhF(m:List (List Int))(xs:List (List Int)):∀l:List (Int×List Int),l.Pairwise (fun p q=>Zo p q=true)->
  (xs.foldl (fun l x=>if 0<zH x then Zj l (zh m x,x) else l) l).Pairwise (fun p q=>Zo p q=true)/\∀y,y∈xs.foldl (fun l x=>if 0<zH x then Zj l (zh m x,x) else l) l↔y∈l∨∃x∈xs,0<zH x/\y=(zh m x,x):=by
 induction xs with
 |nil=>intro l h;exact⟨h,fun y=>by simp⟩
 |cons x xs ih=>
  intro l h;simp only[List.foldl_cons];by_cases hx:0<zH x
  ·rw[if_pos hx];obtain⟨h1,h2⟩:=zhE l (zh m x,x) h;obtain⟨h3,h4⟩:=ih _ h1;refine⟨h3,fun y=>?_⟩;rw[h4,h2];simp only[mem_cons];constructor
   ·rintro((h|h)|⟨z,hz,a,b⟩)
    ·exact .inl h
    ·exact .inr ⟨x,.inl rfl,hx,h⟩
    ·exact .inr ⟨z,.inr hz,a,b⟩
   ·rintro(h|⟨z,(rfl|hz),a,b⟩)
    ·exact .inl (.inl h)
    ·exact .inl (.inr b)
    ·exact .inr ⟨z,hz,a,b⟩
  ·rw[if_neg hx];obtain⟨h3,h4⟩:=ih _ h;refine⟨h3,fun y=>?_⟩;rw[h4];simp only[mem_cons];constructor
   ·rintro(h|⟨z,hz,a,b⟩)
    ·exact .inl h
    ·exact .inr ⟨z,.inr hz,a,b⟩
   ·rintro(h|⟨z,(rfl|hz),a,b⟩)
    ·exact .inl h
    ·exact absurd a hx
    ·exact .inr ⟨z,hz,a,b⟩
theorem zhG(hr:RedOK m)(hb:0<=b):VecList m b false ((Zp m (Zn m b (m.length-1) [])).map Prod.snd)/\Zp m (Zn m b (m.length-1) [])=((Zp m (Zn m b (m.length-1) [])).map Prod.snd).map fun x=>(zh m x,x):=by
 obtain⟨h1,h2⟩:=zhF m (Zn m b (m.length-1) []) [] List.Pairwise.nil;have hm:∀y,y∈Zp m (Zn m b (m.length-1) [])↔∃x,(x.length=m.length/\0<zH x/\zh m x<=b)/\y=(zh m x,x):=fun y=>by
  unfold Zp;rw[h2];simp only[zhD hr hb];constructor
  ·rintro(h|⟨x,⟨a1,a2⟩,a3,a4⟩)
   ·simp at h
   ·exact⟨x,⟨a1,a3,a2⟩,a4⟩
  ·rintro⟨x,⟨a1,a3,a2⟩,a4⟩;exact .inr ⟨x,⟨a1,a2⟩,a3,a4⟩
 have he:∀y∈Zp m (Zn m b (m.length-1) []),y=(zh m y.2,y.2):=fun y hy=>by
  obtain⟨x,-,rfl⟩:=(hm y).1 hy;rfl
 refine⟨⟨?_,fun x=>?_⟩,?_⟩
 ·rw[List.pairwise_map];refine List.Pairwise.imp_of_mem ?_ h1;intro p q hp hq h;unfold Zo at h;rw[decide_eq_true_eq,he p hp,he q hq]at h;rw[zdi];exact h
 ·rw[List.mem_map];constructor
  ·rintro⟨y,hy,rfl⟩;obtain⟨x,⟨a1,a2,a3⟩,rfl⟩:=(hm y).1 hy;exact⟨a1,a2,a3,fun h=>by cases h⟩
  ·rintro⟨a1,a2,a3,-⟩;exact⟨(zh m x,x),(hm _).2 ⟨x,⟨a1,a2,a3⟩,rfl⟩,rfl⟩
 ·rw[List.map_map];conv=>lhs;rw[<-List.map_id (Zp m (Zn m b (m.length-1) []))]
  exact List.map_congr_left fun y hy=>he y hy
end
section
open Go.RowKit
open La
theorem zhH(h:Ints w0 A 2 .i64 x)(h1:x.length<=1099511627776)(hb:∀a∈x,-1099511627776<=a/\a<=1099511627776)[hx:Ext w0 w]:
  Cq 77 #[.slice A x.length c] w (Zu w (.bool true)):=by
 have h0:=h.ext hx;have HB:=Zh hb;clear hb h;go_enter Tryz.func77,Tryz.ntmps77;go_wp2;go_loop [4,7] (fun _ i=>∃k:Nat,k<=x.length/\i= .int .i64 k) (fun _ i=>x.length-(intOf i).toNat)
 case atStart=>exact⟨0,by omega,rfl⟩
 case round=>
  obtain⟨k,hk,rfl⟩:=hrel;by_cases hlt:k<x.length
  ·obtain⟨b1,o1,a,rfl,ha,g1,g2⟩:=h0.at_ hlt;have hab:=HB.out a (Zm ha);have d1:decide (a< -1099511627776)=false:=by simp;omega
   have d2:decide (1099511627776<a)=false:=by simp;omega
   clear ha;go_wp2;exact⟨⟨k+1,by omega,by go_num⟩,by simp[intOf];omega⟩
  ·go_wp2;go_ret;exact⟨rfl,rfl⟩
theorem zob(h:Ints w0 A 2 .i64 x)(h1:x.length<=1099511627776)(hb:∀a∈x,-1099511627776<=a/\a<=1099511627776)[hx:Ext w0 w]:
  Cq 80 #[.int .i64 x.length,.slice A x.length c] w (Zu w (.bool true)):=by
 have HI:=Zh (fun W(e:Ext w0 W)=>zhH (w:=W) (c:=c) h h1 hb);clear hb h;go_enter Tryz.func80,Tryz.ntmps80;go_wp2_with (go_at_call 77;refine(HI.out _ Zi).mono ?_;rintro e w1 ⟨rfl,rfl⟩)
 go_ret;exact⟨rfl,rfl⟩
theorem LLLed.fits(h:LLLed m):qP m:=(qL h.red).form.fits
theorem zoc(h1:-262144<=z)(h2:z<=262144):Bd 199 z:=by
 unfold Bd;have:z.natAbs<=262144:=by omega
 exact Nat.lt_of_le_of_lt this (by decide)
theorem LLLed.bd(h:LLLed m):BdM 199 m:=fun i j=>by
 by_cases hi:i<m.length
 ·by_cases hj:j<m.length
  ·have hr:m[i]? =some m[i]:=Ze hi;have hl:m[i].length=m.length:=h.all _ (getElem_mem hi);have he:ent m i j=m[i][j]'(by omega):=JH hr (Ze (by omega));have:=(zdI h.red).ent m[i] (getElem_mem hi) (m[i][j]'(by omega)) (getElem_mem _);rw[he];exact zoc this.1 this.2
  ·rw[qM h.all (.inr (by omega))];exact Bd.zero _
 ·rw[qM h.all (.inl (by omega))];exact Bd.zero _
theorem zhI(hM:MatA w0 A m)(hL:LLLed m)(h:Ints w1 B 2 .i64 x)(hn:x.length=m.length)(hb:∀a∈x,-1099511627776<=a/\a<=1099511627776)[hx:Ext w0 w][hy:Ext w1 w]:
  Cq 49 #[.slice A m.length c,.slice B m.length d] w (zy w (.bool true)):=by
 have h8:=hL.len8;have HR:=Zh (fun W(e:Ext w0 W)=>zhC (w:=W) (c:=c) hM hL rfl hL.fits hL.bd);have HF:Hid (∀W,Ext w1 W->Cq 80 #[.int .i64 m.length,.slice B m.length d] W (Zu W (.bool true))):=Zh (fun W(e:Ext w1 W)=>by
  have:=zob (w:=W) (c:=d) h (by omega) hb;rwa [hn]at this)
 clear hb h hM hL hn;generalize m.length=n at*
 go_enter Tryz.func49,Tryz.ntmps49;go_wp2_with (first
  |(go_at_call 79;refine(HR.out _ Zi).mono ?_;rintro e w2 ⟨rfl,hs2⟩)
  |(go_at_call 80;refine(HF.out _ Zi).mono ?_;rintro e w3 ⟨rfl,rfl⟩))
 go_ret;exact⟨rfl,Step.of _ _⟩
def zaD(w:World)(zs:List Int)(e:Ending)(w':World):Prop:=∃B d,e= .returned (.slice B zs.length d)/\IntsV w' B zs/\zs.length<=d/\d<=9223372036854775807/\Step w w'
theorem zci(h:Ints w0 A 2 .i64 x)(h1:x.length<=1000)(hb:∀a∈x,-9223372036854775808<=a/\a<=9223372036854775807)[hx:Ext w0 w]:
  Cq 82 #[.slice A x.length c] w (zaD w x):=by
 have h0:=h.ext hx;have HB:=Zh hb;obtain⟨n,hn⟩:=Xz x.length;unfold zaD;rw[<-hn]at h1|-
 have HL:=Zh hn;clear hb h hn;go_enter Tryz.func82,Tryz.ntmps82;go_wp2;go_loopw [3,5,8] (fun s3 _ i wr=>∃(q:Nat) (A1:Option Addr) (c1:Nat) (vs:List Value),q<=n/\i= .int .i64 q/\s3= .slice A1 q c1/\Hid (Own wr w.heap.size 99 2 A1 q c1 vs)/\Hid (VsOf wr vs (x.take q))/\Ext w wr) (fun _ _ i _=>n-(intOf i).toNat)
 case atStart=>exact⟨0,none,0,[],by omega,rfl,rfl,Zh (Own.nil _ _ _ _),Zh (fun i z hz=>by simp at hz),Zi⟩
 case round=>
  obtain⟨q,A1,c1,vs,hq,rfl,rfl,HO,HV,hxr⟩:=hrel;by_cases hlt:q<n
  ·have hlx:q<x.length:=by rw[<-HL.out];exact hlt
   obtain⟨b1,o1,a,rfl,ha,g1,g2⟩:=(h0.ext hxr).at_ hlx;have hab:=HB.out a (Zm ha);have hae:Hid (x.getD q 0=a):=Zh (by simp[List.getD,ha]);have HS:=Zh (fun W=>Qc a hab.1 hab.2 W);clear ha;go_wp2_with fail
   refine(HS.out _).mono ?_;rintro e w5 ⟨g5,B5,k5,d5,rfl,hz5,hs5⟩;have hx5:Ext wr w5:=Zi;have HZ5:=Zh hz5;clear hz5;go_wp2_with (at_builtin;refine zM _ rfl _ _ 86 rfl w.heap.size 99 (.agg #[.bool false,.slice none 0 0]) 2 32 Tryz.underlying86 ja rfl (by omega) (by omega) A1 q c1 vs rfl (HO.out.ext Zi) (some ⟨w5.heap.size,0,none⟩) 1 1 [.bool g5,.slice B5 k5 d5] rfl (Arr.new w5 99 #[.bool g5,.slice B5 k5 d5]) rfl (zca _ _ _ _) (by omega) (by have:=(hxr.trans hx5).size;simp;omega) ?_;intro A6 c6 w6 zrS hg;have HO6:=Zh zrS;have HG6:=Zh hg;have hx6:Ext w w6:=hg.ext Zi Zr;clear zrS hg)
   refine⟨⟨q+1,A6,c6,vs++[.bool g5,.slice B5 k5 d5],by omega,by go_num,rfl,HO6,Zh ?_,hx6⟩,by simp[intOf]<;>omega⟩;have hxa:Ext w5 (w5.alloc (.cells #[.bool g5,.slice B5 k5 d5] 99)):=Zi;have hv5:VsOf (w5.alloc (.cells #[.bool g5,.slice B5 k5 d5] 99)) (vs++[.bool g5,.slice B5 k5 d5]) (x.take q++[x.getD q 0]):=VsOf.snoc (HV.out.map fun hz=>(hz.ext hx5).ext hxa) (by rw[HO.out.len,List.length_take,<-HL.out,Nat.min_eq_left hq]) (by rw[hae.out];exact HZ5.out.ext hxa)
   rw[zas (by rw[<-HL.out];exact hlt)];exact hv5.grow HG6.out (by decide)
  ·obtain rfl:q=n:=by omega
   go_wp2;go_ret;have h2:=HV.out;rw[List.take_of_length_le (by rw[<-HL.out];exact Zr)]at h2;exact⟨A1,c1,rfl,h2.intsV (by rw[HO.out.len,<-HL.out]) HO.out.arr (Ext.refl _),HO.out.cap.1,HO.out.cap.2,hxr.toStep⟩
def ZR(m:List (List Int))(n:Nat)(x:List Int):List Int:=m.map fun r=>zu n fun i=>r.getD i 0*x.getD i 0
theorem zbo(m:List (List Int))(n:Nat)(x:List Int):(ZR m n x).length=m.length:=by simp[ZR]
theorem zeb{r:List Int}(hr:m[i]? =some r):(ZR m n x).getD i 0=zu n fun j=>r.getD j 0*x.getD j 0:=by
 simp[ZR,List.getD,hr]
theorem zhJ(hM:MatV w0 A m)(hX:IntsV w1 B x)(h1:1<=m.length)(h2:m.length<=16)(h3:1<=n)(h4:n<=16)(hn:AllLen m n)(hxl:x.length=n)(hk:k<=1000000000000)(hbm:∀i j,Bd k (ent m i j))(hbx:QI k x)[hx:Ext w0 w][hy:Ext w1 w]:
  Cq 81 #[.slice A m.length c,.slice B n d] w (zax w (ZR m n x)):=by
 have h0:=hM.ext hx;have hX0:=hX.ext hy;have HSH:=Zh (fun W(e:Ext w W)=>zbg (w:=W) (c:=c) h0 n h1 h2 h3 h4 hn);have HDT:Hid (∀(W0 W:World)(A1:Option Addr)(c1 i:Nat)(r:List Int),m[i]? =some r->IntsV W0 A1 r->Ext W0 W->Ext w W->Cq 83 #[.slice A1 n c1,.slice B n d] W (zC W ((ZR m n x).getD i 0))):=Zh (fun W0 W A1 c1 i r hr hI e1 e2=>by
  have hrl:r.length=n:=hn r (Zm hr);rw[zeb hr];refine zbh hI hX0 hrl hxl h4 hk (fun j=>?_) hbx;have:=hbm i j;unfold ent at this;simp only[List.getD,hr,Option.getD_some]at this;exact this)
 have HAL:Hid (∀(i:Nat)(r:List Int),m[i]? =some r->r.length=n):=Zh (fun i r hr=>hn r (Zm hr));have HAR:Hid ((ZR m n x).length=m.length):=Zh (zbo m n x);unfold zax;obtain⟨Z,hZ⟩:=Xz (ZR m n x);rw[<-hZ]at HDT HAR|-
 obtain⟨zd,hrw⟩:=Xz m.length;rw[<-hrw]at HSH HAR h1 h2|-
 have HRW:=Zh hrw;clear hn hM hX hX0 hxl hbm hbx hZ hrw;go_enter Tryz.func81,Tryz.ntmps81;go_wp2_with (go_at_call 134;refine(HSH.out _ Zi).mono ?_;rintro e w2 ⟨rfl,hs2⟩)
 have zsA:Ext w w2:=Zi;go_loopw [9,11,28] (fun s9 _ i wr=>∃(q:Nat) (A1:Option Addr) (c1:Nat) (vs:List Value),q<=zd/\i= .int .i64 q/\s9= .slice A1 q c1/\Hid (Own wr w2.heap.size 99 2 A1 q c1 vs)/\Hid (VsOf wr vs (Z.take q))/\Ext w2 wr) (fun _ _ i _=>zd-(intOf i).toNat)
 case atStart=>exact⟨0,none,0,[],by omega,rfl,rfl,Zh (Own.nil _ _ _ _),Zh (fun i z hz=>by simp at hz),Zi⟩
 case round=>
  obtain⟨q,A1,c1,vs,hq,rfl,rfl,HO,HV,hxr⟩:=hrel;have zse:Ext w wr:=zsA.trans hxr;by_cases hlt:q<zd
  ·obtain⟨r,hr⟩:∃r,m[q]? =some r:=⟨_,Ze (by rw[<-HRW.out];exact hlt)⟩;have hrl:=HAL.out q r hr;obtain⟨b1,o1,B1,d1,rfl,g1,g2,-,-,g3⟩:=(h0.ext zse).at_ hr;rw[hrl]at g1;have HD:=Zh (fun W(e:Ext wr W)=>HDT.out wr W B1 d1 q r hr g2 e (zse.trans e));clear hr hrl g2;go_wp2_with fail
   refine(HD.out _ Zi).mono ?_;rintro e w5 ⟨g5,B5,k5,d5,rfl,hz5,hs5⟩;have hx5:Ext wr w5:=Zi;have HZ5:=Zh hz5;clear hz5;go_wp2_with (at_builtin;refine zM _ rfl _ _ 86 rfl w2.heap.size 99 (.agg #[.bool false,.slice none 0 0]) 2 32 Tryz.underlying86 ja rfl (by omega) (by omega) A1 q c1 vs rfl (HO.out.ext Zi) (some ⟨w5.heap.size,0,none⟩) 1 1 [.bool g5,.slice B5 k5 d5] rfl (Arr.new w5 99 #[.bool g5,.slice B5 k5 d5]) rfl (zca _ _ _ _) (by omega) (by have:=(hxr.trans hx5).size;simp;omega) ?_;intro A6 c6 w6 zrS hg;have HO6:=Zh zrS;have HG6:=Zh hg;have hx6:Ext w2 w6:=hg.ext Zi Zr;clear zrS hg)
   refine⟨⟨q+1,A6,c6,vs++[.bool g5,.slice B5 k5 d5],by omega,by go_num,rfl,HO6,Zh ?_,hx6⟩,by simp[intOf]<;>omega⟩;have hxa:Ext w5 (w5.alloc (.cells #[.bool g5,.slice B5 k5 d5] 99)):=Zi;have hv5:VsOf (w5.alloc (.cells #[.bool g5,.slice B5 k5 d5] 99)) (vs++[.bool g5,.slice B5 k5 d5]) (Z.take q++[Z.getD q 0]):=VsOf.snoc (HV.out.map fun hz=>(hz.ext hx5).ext hxa) (by rw[HO.out.len,List.length_take,HAR.out,Nat.min_eq_left hq]) (HZ5.out.ext hxa)
   rw[zas (by rw[HAR.out];exact hlt)];exact hv5.grow HG6.out (by decide)
  ·obtain rfl:q=zd:=by omega
   go_wp2;go_ret2
   have h2:=HV.out;rw[List.take_of_length_le (by rw[HAR.out];exact Zr)]at h2;exact⟨A1,c1,by rw[HAR.out];rfl,h2.intsV (by rw[HO.out.len,HAR.out]) HO.out.arr (Ext.refl _),by rw[HAR.out];exact HO.out.cap.1,HO.out.cap.2,zse.toStep⟩
theorem zod(h1:-1099511627776<=z)(h2:z<=1099511627776):Bd 199 z:=by
 unfold Bd;have:z.natAbs<=1099511627776:=by omega
 exact Nat.lt_of_le_of_lt this (by decide)
theorem zec(hb:∀a∈x,-1099511627776<=a/\a<=1099511627776):QI 199 x:=fun i=>by
 rw[List.getD_eq_getElem?_getD]
 cases h:x[i]? with
 |none=>exact Bd.zero _
 |some a=>have:=hb a (Zm h);exact zod this.1 this.2
theorem zed(hn:n<=16)(hbm:∀i j,Bd k (ent m i j))(hbx:QI k x):QI (2*k+n) (ZR m n x):=fun i=>by
 rw[List.getD_eq_getElem?_getD]
 cases h:m[i]? with
 |none=>simp[ZR,h];exact Bd.zero _
 |some r=>
  have e:((ZR m n x)[i]?).getD 0=zu n fun j=>r.getD j 0*x.getD j 0:=by
   rw[<-List.getD_eq_getElem?_getD];exact zeb h
  rw[e];refine JT (n:=n) (fun j _=>?_) n Zr;have h1:=hbm i j;unfold ent at h1;simp only[List.getD,h,Option.getD_some]at h1;have:=h1.mul (hbx j);rw[show k+k=2*k by omega]at this;exact this
theorem zee(x y:List Int):qB m x y=zu m.length fun i=>x.getD i 0*(ZR m m.length y).getD i 0:=by
 unfold qB;refine ZY fun i hi=>?_
 have hr:m[i]? =some m[i]:=Ze hi;rw[zeb hr];congr 1
 refine ZY fun j _=>?_
 unfold ent;simp[List.getD,hr]
theorem zoe(hM:MatA w0 A m)(hL:LLLed m)(hX:Ints w1 B 2 .i64 x)(hY:Ints w2 C 2 .i64 y)(hxl:x.length=m.length)(hyl:y.length=m.length)(hbx:∀a∈x,-1099511627776<=a/\a<=1099511627776)(hby:∀a∈y,-1099511627776<=a/\a<=1099511627776)[hx0:Ext w0 w][hx1:Ext w1 w][hx2:Ext w2 w]:
  Cq 51 #[.slice A m.length c,.slice B m.length d,.slice C m.length e'] w (zC w (qB m x y)):=by
 have h8:=hL.len8;have h1:=hL.len1;have HOF:=Zh (fun W(e:Ext w0 W)=>(zb6 (w:=W) (c:=c) hM m.length h1 (by omega) h1 (by omega) hL.all hL.fits).mono fun _ _ h=>h.mat);have HCX:Hid (∀W,Ext w1 W->Cq 82 #[.slice B m.length d] W (zaD W x)):=Zh (fun W e=>by
  have:=zci (w:=W) (c:=d) hX (by omega) (fun a ha=>by have:=hbx a ha;omega);rwa [hxl]at this)
 have HCY:Hid (∀W,Ext w2 W->Cq 82 #[.slice C m.length e'] W (zaD W y)):=Zh (fun W e=>by
  have:=zci (w:=W) (c:=e') hY (by omega) (fun a ha=>by have:=hby a ha;omega);rwa [hyl]at this)
 have HAP:Hid (∀(W1 W2 W:World)(A1 A2:Option Addr)(c1 c2:Nat),MatV W1 A1 m->IntsV W2 A2 y->Ext W1 W->Ext W2 W->Cq 81 #[.slice A1 m.length c1,.slice A2 m.length c2] W (zax W (ZR m m.length y))):=Zh (fun W1 W2 W A1 A2 c1 c2 i1 i2 e1 e2=>zhJ i1 i2 h1 (by omega) h1 (by omega) hL.all hyl (k:=199) (by omega) hL.bd (zec hby));have HDT:Hid (∀(W1 W2 W:World)(A1 A2:Option Addr)(c1 c2:Nat),IntsV W1 A1 x->IntsV W2 A2 (ZR m m.length y)->Ext W1 W->Ext W2 W->Cq 83 #[.slice A1 m.length c1,.slice A2 m.length c2] W (zC W (qB m x y))):=Zh (fun W1 W2 W A1 A2 c1 c2 i1 i2 e1 e2=>by
  rw[zee];refine zbh i1 i2 hxl (zbo _ _ _) (by omega) (k:=2*199+m.length) (by omega) (fun i=>(zec hbx i).mono (by omega)) (zed (by omega) hL.bd (zec hby)))
 have HAL:Hid ((ZR m m.length y).length=m.length):=Zh (zbo _ _ _);have HXL:=Zh hxl;have HYL:=Zh hyl;clear hbx hby hM hL hX hY hxl hyl;generalize ZR m m.length y=ay at*
 generalize qB m x y=z at*
 obtain⟨n,hn⟩:=Xz m.length;have HN:=Zh hn;unfold ju at HOF;rw[<-hn]at HOF HCX HCY HAP HDT HAL HXL HYL|-
 clear hn h1 h8;go_enter Tryz.func51,Tryz.ntmps51;go_upto_region 2 with (first
  |(go_at_call 58;refine(HOF.out _ Zi).mono ?_;rintro e w3 ⟨A3,c3,rfl,hM3,-,-,hs3⟩;have HM3:=Zh hM3;clear hM3)
  |(go_at_call 82;refine(HCY.out _ Zi).mono ?_;rintro e w4 ⟨A4,c4,rfl,hI4,-,-,hs4⟩;have HI4:=Zh hI4;clear hI4;rw[HYL.out])
  |(go_at_call 81;refine(HAP.out _ _ _ _ _ _ _ HM3.out HI4.out Zi Zi).mono ?_;rintro e w5 ⟨A5,c5,rfl,hI5,-,-,hs5⟩;have HI5:=Zh hI5;clear hI5;rw[HAL.out]))
 go_wp2_with (first
  |(go_at_call 82;refine(HCX.out _ Zi).mono ?_;rintro e w6 ⟨A6,c6,rfl,hI6,-,-,hs6⟩;have HI6:=Zh hI6;clear hI6;rw[HXL.out])
  |(go_at_call 83;refine(HDT.out _ _ _ _ _ _ _ HI6.out HI5.out Zi Zi).mono ?_;rintro e w7 ⟨g7,B7,k7,d7,rfl,hz7,hs7⟩;have hb7:=(Zi:BlkAt w.heap.size #[.bool false,.slice none 0 0] 99 w7).eq;obtain⟨t1,t2,t3,t4,t5⟩:=zP hb7;have tq:Typed w.heap.size 99 w7:=⟨_,_,hb7⟩;clear hb7))
 exact bodyPost_ret (v:= .agg #[.bool g7,.slice B7 k7 d7]) (by simp[results,Tryz.results51,go_sem,t1,t2]) rfl ⟨_,_,_,_,rfl,hz7.keeps,Step.of _ _⟩
theorem zof{g:Bool}(h:IntV w0 g B k d z)(h0:-4611686018427387904<=z)(h1:z<=4611686018427387904)[hx:Ext w0 w]:
  Cq 50 #[.agg #[.bool g,.slice B k d]] w (zy w (.tuple #[.int .i64 z,.bool true])):=by
 have HI:=Zh (fun W(e:Ext w0 W)=>zaZ (w:=W) h (by omega) (by omega));have d1:decide (z< -4611686018427387904)=false:=by simp;omega
 have d2:decide (4611686018427387904<z)=false:=by simp;omega
 clear h;go_enter Tryz.func50,Tryz.ntmps50;go_wp2_with (go_at_call 75;refine(HI.out _ Zi).mono ?_;rintro e w2 ⟨rfl,hs2⟩)
 go_ret2
 exact⟨rfl,Step.of _ _⟩
theorem zog(hM:MatA w0 A m)(hL:LLLed m)(hX:Ints w1 B 2 .i64 x)(hY:Ints w2 C 2 .i64 y)(hxl:x.length=m.length)(hyl:y.length=m.length)(hbx:∀a∈x,-1099511627776<=a/\a<=1099511627776)(hby:∀a∈y,-1099511627776<=a/\a<=1099511627776)(b0:-4611686018427387904<=qB m x y)(b1:qB m x y<=4611686018427387904)[hx0:Ext w0 w][hx1:Ext w1 w][hx2:Ext w2 w]:
  Cq 23 #[.slice A m.length c,.slice B m.length d,.slice C m.length e'] w (zy w (.tuple #[.int .i64 (qB m x y),.bool true])):=by
 have HVX:=Zh (fun W(e0:Ext w0 W)(e1:Ext w1 W)=>zhI (w:=W) (c:=c) (d:=d) hM hL hX hxl hbx);have HVY:=Zh (fun W(e0:Ext w0 W)(e1:Ext w2 W)=>zhI (w:=W) (c:=c) (d:=e') hM hL hY hyl hby);have HP:=Zh (fun W(e0:Ext w0 W)(e1:Ext w1 W)(e2:Ext w2 W)=>zoe (w:=W) (c:=c) (d:=d) (e':=e') hM hL hX hY hxl hyl hbx hby);clear hM hL hX hY hxl hyl hbx hby;generalize qB m x y=z at*
 generalize m.length=n at*
 have HW:Hid (∀W0 W g B k d,IntV W0 g B k d z->Ext W0 W->Cq 50 #[.agg #[.bool g,.slice B k d]] W (zy W (.tuple #[.int .i64 z,.bool true]))):=Zh (fun W0 W g B k d h e=>zof h b0 b1);go_enter Tryz.func23,Tryz.ntmps23;go_wp2_with fail
 refine(HVX.out _ Zi Zi).mono ?_;rintro e w3 ⟨rfl,hs3⟩;go_wp2_with fail
 refine(HVY.out _ Zi Zi).mono ?_;rintro e w4 ⟨rfl,hs4⟩;go_wp2_with (first
  |(go_at_call 51;refine(HP.out _ Zi Zi Zi).mono ?_;rintro e w5 ⟨g5,B5,k5,d5,rfl,hz5,hs5⟩)
  |(go_at_call 50;refine(HW.out _ _ _ _ _ _ hz5 Zi).mono ?_;rintro e w6 ⟨rfl,hs6⟩))
 go_ret2
 exact⟨rfl,Step.of _ _⟩
theorem zoh(x:List Int)(k:Nat)(a:Int)(h:x[k]? =some a):zH (x.take (k+1))=if zH (x.take k)=0 then a else zH (x.take k):=by
 induction x generalizing k with
 |nil=>simp at h
 |cons y x ih=>
  cases k with
  |zero=>
   simp at h;subst h;simp only[List.take_succ_cons,List.take_zero,zH];by_cases h:y=0
   ·simp[h]
   ·simp[h]
  |succ k=>
   simp only[List.getElem?_cons_succ]at h;have:=ih k h;simp only[List.take_succ_cons,zH];by_cases hy:y=0
   ·simp only[hy,if_true];exact this
   ·simp[hy]
def Z0(a:Int):Int:=if a<0 then-1 else if a=0 then 0 else 1
theorem zoi(x:List Int)(h:zH x≠0):x.map (fun c=>Z0 (zH x)*c)=zR x:=by
 unfold zR Z0;by_cases h1:zH x<0
 ·rw[if_pos h1,if_pos h1];exact List.map_congr_left fun c _=>by omega
 ·rw[if_neg h1,if_neg h1,if_neg h];simp
def zef(w:World)(x:List Int)(e:Ending)(w':World):Prop:=
 (zH x=0/\e= .returned (.tuple #[.slice none 0 0,.bool false])/\Step w w')∨
 (zH x≠0/\∃B d,e= .returned (.tuple #[.slice B x.length d,.bool true])/\Ints w' B 2 .i64 (zR x)/\x.length<=d/\d<=9223372036854775807/\Step w w')
theorem zeg(a:Int):(a<0/\Z0 a=-1)∨(a=0/\Z0 a=0)∨(0<a/\Z0 a=1):=by
 unfold Z0;split
 ·exact .inl ⟨by assumption,rfl⟩
 ·split
  ·exact .inr (.inl ⟨by assumption,rfl⟩)
  ·exact .inr (.inr ⟨by omega,rfl⟩)
theorem zoj(x:List Int)(s:Int)(q:Nat)(a:Int)(h:x[q]? =some a):((x.take (q+1)).map fun a=>Value.int .i64 (s*a))=((x.take q).map fun a=>Value.int .i64 (s*a))++[.int .i64 (s*a)]:=by
 rw[List.take_add_one,h];simp
theorem zok(h:Ints w0 A 2 .i64 x)(h1:x.length<=1000)(hb:∀a∈x,-1099511627776<=a/\a<=1099511627776)[hx:Ext w0 w]:
  Cq 46 #[.slice A x.length c] w (zef w x):=by
 have h0:=h.ext hx;have HI:=Zh (fun W(e:Ext w0 W)=>zhH (w:=W) (c:=c) h (by omega) hb);have HB:=Zh hb;unfold zef;obtain⟨n,hn⟩:=Xz x.length;rw[<-hn]at HI h1|-
 have HL:=Zh hn;clear hb h hn;go_enter Tryz.func46,Tryz.ntmps46;go_wp2_with (go_at_call 77;refine(HI.out _ Zi).mono ?_;rintro e w1 ⟨rfl,rfl⟩)
 go_loop [4,6,15] (fun s _ i=>∃k:Nat,k<=n/\i= .int .i64 k/\s= .int .i64 (Z0 (zH (x.take k)))) (fun _ _ i=>n-(intOf i).toNat)
 case atStart=>exact⟨0,by omega,rfl,rfl⟩
 case round=>
  obtain⟨k,hk,rfl,rfl⟩:=hrel;by_cases hlt:k<n
  ·have hlx:k<x.length:=by rw[<-HL.out];exact hlt
   obtain⟨b1,o1,a,rfl,ha,g1,g2⟩:=h0.at_ hlx;have zsD:=zoh x k a ha;have hs:=zeg (zH (x.take k));have HN:Hid (Z0 (zH (x.take (k+1)))=if Z0 (zH (x.take k))=0 then Z0 a else Z0 (zH (x.take k))):=Zh (by
    rw[zsD];by_cases h:zH (x.take k)=0
    ·rw[if_pos h,if_pos (by omega)]
    ·rw[if_neg h,if_neg (by omega)])
   clear zsD hs ha;generalize Z0 (zH (x.take k))=s at*
   rcases zeg a with ⟨ha,hsa⟩|⟨ha,hsa⟩|⟨ha,hsa⟩
   ·have e1:(a !=0)=true:=by simp;omega
    have e2:decide (a<0)=true:=by simpa using ha
    by_cases hs:s=0
    ·subst hs;have HN2:Hid (Z0 (zH (x.take (k+1)))=-1):=Zh (by rw[HN.out,if_pos rfl,hsa]);clear ha hsa;go_wp2;exact⟨⟨k+1,by omega,by go_num,by rw[HN2.out]⟩,by simp[intOf];omega⟩
    ·have HN2:Hid (Z0 (zH (x.take (k+1)))=s):=Zh (by rw[HN.out,if_neg hs]);have e3:(s==0)=false:=by simpa using hs
     clear ha hsa hs;go_wp2;exact⟨⟨k+1,by omega,by go_num,by rw[HN2.out]⟩,by simp[intOf];omega⟩
   ·subst ha;by_cases hs:s=0
    ·subst hs;have HN2:Hid (Z0 (zH (x.take (k+1)))=0):=Zh (by rw[HN.out,if_pos rfl,hsa]);clear hsa;go_wp2;exact⟨⟨k+1,by omega,by go_num,by rw[HN2.out]⟩,by simp[intOf];omega⟩
    ·have HN2:Hid (Z0 (zH (x.take (k+1)))=s):=Zh (by rw[HN.out,if_neg hs]);have e3:(s==0)=false:=by simpa using hs
     clear hsa hs;go_wp2;exact⟨⟨k+1,by omega,by go_num,by rw[HN2.out]⟩,by simp[intOf];omega⟩
   ·have e1:(a !=0)=true:=by simp;omega
    have e2:decide (a<0)=false:=by simp;omega
    by_cases hs:s=0
    ·subst hs;have HN2:Hid (Z0 (zH (x.take (k+1)))=1):=Zh (by rw[HN.out,if_pos rfl,hsa]);clear ha hsa;go_wp2;exact⟨⟨k+1,by omega,by go_num,by rw[HN2.out]⟩,by simp[intOf];omega⟩
    ·have HN2:Hid (Z0 (zH (x.take (k+1)))=s):=Zh (by rw[HN.out,if_neg hs]);have e3:(s==0)=false:=by simpa using hs
     clear ha hsa hs;go_wp2;exact⟨⟨k+1,by omega,by go_num,by rw[HN2.out]⟩,by simp[intOf];omega⟩
  ·have htk:x.take k=x:=List.take_of_length_le (by have:=HL.out;omega);rw[htk];have hs:=zeg (zH x);clear htk;by_cases hz:zH x=0
   ·have hsz:Z0 (zH x)=0:=by omega
    rw[hsz];have HZ:=Zh hz;clear hs hsz hz;go_wp2;go_ret2
    exact .inl ⟨HZ.out,rfl,Step.of _ _⟩
   ·have HC:=Zh (zoi x hz);have HZ:=Zh hz;have e3:(Z0 (zH x)==0)=false:=by simp;omega
    have hs2:Z0 (zH x)=-1∨Z0 (zH x)=1:=by omega
    clear hs hz;generalize Z0 (zH x)=s at*
    go_wp2;go_loopw [7,9,32] (fun s7 _ i wr=>∃(q:Nat) (A1:Option Addr) (c1:Nat),q<=n/\i= .int .i64 q/\s7= .slice A1 q c1/\Hid (Own wr w.heap.size 2 1 A1 q c1 ((x.take q).map fun a=>Value.int .i64 (s*a)))/\Ext w wr) (fun _ _ i _=>n-(intOf i).toNat)
    case atStart=>exact⟨0,none,0,by omega,rfl,rfl,Zh (Own.nil _ _ _ _),Zi⟩
    case round=>
     obtain⟨q,A1,c1,hq,rfl,rfl,HO,hxr⟩:=hrel;by_cases zrY:q<n
     ·have hlx:q<x.length:=by rw[<-HL.out];exact zrY
      obtain⟨b1,o1,a,rfl,ha,g1,g2⟩:=(h0.ext hxr).at_ hlx;have hab:=HB.out a (Zm ha);have hsa:-1099511627776<=s*a/\s*a<=1099511627776:=by rcases hs2 with rfl|rfl<;>omega
      have HT:=Zh (zoj x s q a ha);obtain⟨p,hp⟩:=Yz (s*a);rw[hp]at hsa HT;have hpw:IntKind.i64.wrap p=p:=Iw;clear ha hs2;go_wp2_with (at_builtin;refine zM _ rfl _ _ 28 rfl w.heap.size 2 (.int .i64 0) 1 8 Tryz.underlying28 q9 rfl (by omega) (by omega) A1 q c1 ((x.take q).map fun a=>Value.int .i64 (s*a)) rfl (HO.out.ext Zi) (some ⟨wr.heap.size,0,none⟩) 1 1 [.int .i64 p] rfl (Arr.new wr 2 #[.int .i64 p]) rfl (JU _) (by omega) (by have:=hxr.size;simp;omega) ?_;intro A6 c6 w6 zrS hg;have HO6:=Zh zrS;have hx6:Ext w w6:=hg.ext Zi Zr;clear zrS hg)
      exact⟨⟨q+1,A6,c6,by omega,by go_num,rfl,Zh (by rw[HT.out];exact HO6.out),hx6⟩,by simp[intOf]<;>omega⟩
     ·obtain rfl:q=n:=by omega
      go_wp2;go_ret2
      have h2:=HO.out;rw[List.take_of_length_le (by rw[<-HL.out];exact Zr)]at h2;refine .inr ⟨HZ.out,A1,c1,rfl,?_,h2.cap.1,h2.cap.2,hxr.toStep⟩;have h3:=h2.arr;have e:(x.map fun a=>Value.int .i64 (s*a))=(zR x).map (Value.int .i64):=by rw[<-HC.out,List.map_map];rfl
      rw[e]at h3;exact h3
theorem zhK{X Y:Option Addr}{a:Int}(hX:Ints w0 X 2 .i64 x)(hY:Ints w1 Y 2 .i64 y)(hx1:x.length<=1099511627776)(hy1:y.length<=1099511627776)[hx:Ext w0 w][hy:Ext w1 w]:
  Cq 78 #[.agg #[.int .i64 a,.slice X x.length c],.agg #[.int .i64 b,.slice Y y.length d]] w (zy w (.bool (Zo (a,x) (b,y)))):=by
 have hXw:=hX.ext hx;have hYw:=hY.ext hy;have HC:=Zh (fun W(e:Ext w W)=>zdn (w0:=w) (w:=W) (c:=c) (d:=d) hXw hYw hx1 hy1);clear hX hY hXw hYw;rcases Int.lt_trichotomy a b with h|h|h
 ·have HV:Hid (Zo (a,x) (b,y)=true):=Zh (by simp[Zo,Jo,zB,qj h]);have d1:decide (a<b)=true:=by simpa using h
  rw[HV.out];clear h;go_enter Tryz.func78,Tryz.ntmps78;go_wp2_with fail
  go_ret;exact⟨rfl,Step.of _ _⟩
 ·subst h;have HV:Hid (Zo (a,x) (a,y)=decide (zB x y<0)):=Zh (by simp[Zo,Jo,zB,qY]);rw[HV.out];have d1:decide (a<a)=false:=by simp
  have d2:(a==a)=true:=by simp
  go_enter Tryz.func78,Tryz.ntmps78;go_wp2_with (go_at_call 47;refine(HC.out _ Zi).mono ?_;rintro e w3 ⟨rfl,nq,rfl⟩)
  go_ret;exact⟨rfl,Step.of _ _⟩
 ·have HV:Hid (Zo (a,x) (b,y)=false):=Zh (by simp[Zo,Jo,zB,qD h]);have d1:decide (a<b)=false:=by simp;omega
  have d2:(a==b)=false:=by simp;omega
  rw[HV.out];clear h;go_enter Tryz.func78,Tryz.ntmps78;go_wp2_with fail
  go_ret;exact⟨rfl,Step.of _ _⟩
def qh(m:List (List Int))(k:Nat):List (List Int):=tab (fun i j=>E (ent m) k (k+i) (k+j)) (m.length-k) (m.length-k)
theorem zcj(m:List (List Int))(k:Nat):(qh m k).length=m.length-k:=zw _ _ _
theorem zol{b:Nat}(h:MatV w0 A m)(h1:m.length=n)(h4:n<=8)(hn:AllLen m n)(hb:BdM b m)(hb1:1<=b)(hbb:b<=1000000)(hk:k<n)(hp:∀l,l<k->E (ent m) l l l≠0)[hx:Ext w0 w]:
  Cq 116 #[.slice A n c,.int .i64 k] w (RetOwnI w (n-k) (qh m k)):=by
 have h0:=h.ext hx;obtain⟨r,hr⟩:=Xz (n-k);have HSE:Hid (∀(W1 W2 W:World)(A1 A2:Option Addr)(c1 c2 i j:Nat),i<r->j<r->Ints W1 A1 3 .i64 (zY (zF k (k+i)))->Ints W2 A2 3 .i64 (zY (zF k (k+j)))->Ext w W->Ext W1 W->Ext W2 W->Cq 119 #[.slice A n c,.slice A1 (k+1) c1,.slice A2 (k+1) c2] W (ju W (zU m (zF k (k+i)) (zF k (k+j))))):=Zh (fun W1 W2 W A1 A2 c1 c2 i j hi hj e1 e2 x0 x1 x2=>by
  have:=zd1 (w:=W) (c:=c) (cR:=c1) (cC:=c2) h0 e1 e2 hn (by rw[qr];omega) (by rw[qr];omega) (by rw[h1];exact zav (by omega) (by omega)) (zav (by omega) (by omega));rw[h1,qr,qr]at this;exact this)
 have HDT:Hid (∀(W1 W:World)(A1:Option Addr)(c1 i j:Nat),i<r->j<r->MatV W1 A1 (zU m (zF k (k+i)) (zF k (k+j)))->Ext W1 W->Cq 118 #[.slice A1 (k+1) c1] W (zC W (E (ent m) k (k+i) (k+j)))):=Zh (fun W1 W A1 c1 i j hi hj hM e1=>by
  rw[<-zan hp (k+i) (k+j)];exact zd3 hM (by omega) hb hb1 hbb)
 have HSL:Hid (∀i j,(zU m (zF k i) (zF k j)).length=k+1):=Zh (fun i j=>by rw[zau,qr]);have HFL:Hid (∀i,(zY (zF k i)).length=k+1):=Zh (fun i=>by rw[zd0,qr]);have HFI:Hid (∀(W:World)(i:Nat),Cq 120 #[.int .i64 k,.int .i64 i] W (zdY W (zY (zF k i)))):=Zh (fun W i=>zhg k i (by omega));have HST:Hid (qh m k=tab (fun i j=>E (ent m) k (k+i) (k+j)) r r):=Zh (by unfold qh;rw[h1,hr]);rw[HST.out,<-hr]
 obtain⟨F,hF⟩:∃F:Nat->Nat->Int,F=fun i j=>E (ent m) k (k+i) (k+j):=⟨_,rfl⟩
 rw[<-hF];have hFij:∀i j,E (ent m) k (k+i) (k+j)=F i j:=fun i j=>by rw[hF]
 have zrC:Hid (∀(W1 W:World)(A1:Option Addr)(c1 i j:Nat),i<r->j<r->MatV W1 A1 (zU m (zF k (k+i)) (zF k (k+j)))->Ext W1 W->Cq 118 #[.slice A1 (k+1) c1] W (zC W (F i j))):=Zh (fun W1 W A1 c1 i j hi hj hM e1=>by
  have:=HDT.out W1 W A1 c1 i j hi hj hM e1;rwa [hFij]at this)
 have hnk:(n:Int)-(k:Int)=(r:Int):=by omega
 have hrw:IntKind.i64.wrap ((n:Int)-k)=(r:Int):=by rw[show (n:Int)-k=(r:Int) by omega];exact Iw
 clear hn hb h1 hp HDT HST hF hFij hr;go_enter Tryz.func116,Tryz.ntmps116;go_wp2_with (go_at_call 139;refine(zbf r r (by omega) (by omega)).mono ?_;rintro e w3 ⟨g,hs,cz,rfl,hO,zsa,zso,hs2⟩;rw[zw]at zsa|-;have HO:=Zh hO;clear hO)
 have hx3:Ext w w3:=Zi;go_loopw [7,8,18,26] (fun _ _ i _ wr=>∃q:Nat,q<=r/\i= .int .i64 q/\Hid (OwnI wr w.heap.size g r hs (tab (Qe F q 0) r r))/\Ext w wr) (fun _ _ i _ _=>r-(intOf i).toNat)
 case atStart=>exact⟨0,by omega,rfl,Zh (by rw[zdW];exact HO.out),Zi⟩
 case round=>
  obtain⟨i,hi,rfl,HO1,hxr⟩:=hrel;obtain⟨wo,rfl⟩:∃wo:World,wo=wr:=⟨_,rfl⟩;by_cases hlt:i<r
  ·obtain⟨b0,c0,hp0,d1,d2,d3,d4,d5,d6⟩:=HO1.out.hdr (i:=i) (by rw[zw];exact hlt);clear hp0;go_wp2_with fail
   go_loopw [8,26] (fun _ j wr=>∃q:Nat,q<=r/\j= .int .i64 q/\Hid (OwnI wr w.heap.size g r hs (tab (Qe F i q) r r))/\Ext w wr) (fun _ j _=>r-(intOf j).toNat)
   case atStart=>exact⟨0,by omega,rfl,HO1,Zi⟩
   case round=>
    obtain⟨q,hq,rfl,HO2,hxq⟩:=hrel;by_cases zrY:q<r
    ·obtain⟨b1,c1,hp1,f1,f2,f3,f4,f5,f6⟩:=HO2.out.hdr (i:=i) (by rw[zw];exact hlt);have HP1:=Zh hp1;have HX:=Zh (fun W hh=>HO2.out.hdrX hp1 (by rw[zw];exact hlt) W hh);have hlo:=HO2.out.lo_row hp1;have hnw:New b1 w:=⟨hlo⟩;have HE:Hid (∀W,Ext wr W->∃s B k' d,W.cell? ⟨b1,q*2,none⟩=some (.bool s)/\W.cell? ⟨b1,q*2+1,none⟩=some (.slice B k' d)/\W.frozen? ⟨b1,q*2,none⟩=false/\W.frozen? ⟨b1,q*2+1,none⟩=false/\b1<W.heap.size):=Zh (fun W hh=>by
      obtain⟨s,B,k',d,a1,a2,-,a4,a5⟩:=(HO2.out.ext hh).entry (i:=i) HP1.out (by rw[zw];exact hlt) zrY;exact⟨s,B,k',d,a1,a2,a4,a5,Nat.lt_of_lt_of_le f5 hh.size⟩)
     have hki:IntKind.i64.wrap ((k:Int)+(i:Int))=((k+i:Nat):Int):=by rw[show (k:Int)+(i:Int)=((k+i:Nat):Int) by simp];exact Iw
     have hkq:IntKind.i64.wrap ((k:Int)+(q:Int))=((k+q:Nat):Int):=by rw[show (k:Int)+(q:Int)=((k+q:Nat):Int) by simp];exact Iw
     have HF1:=Zh (fun W=>HFI.out W (k+i));have HF2:=Zh (fun W=>HFI.out W (k+q));clear hp1;go_wp2_with fail
     go_region_held3 (fun w'=>w'.cell? ⟨g,i,none⟩=some (.slice (some ⟨b1,0,none⟩) r c1))
      (first|exact(HX.out _ Zi).1|exact(HX.out _ Zi).2 _ _ _ _)
      (first
       |(have hh:=hI6;clear hh;go_at_call 120;refine(HF2.out _).mono ?_;rintro e w7 ⟨A7,c7,rfl,hI7,-,-,hs7⟩;rw[HFL.out])
       |(go_at_call 120;refine(HF1.out _).mono ?_;rintro e w6 ⟨A6,c6,rfl,hI6,-,-,hs6⟩;rw[HFL.out])
       |(go_at_call 119;refine(HSE.out _ _ _ _ _ _ _ i q hlt zrY hI6 hI7 Zi Zi Zi).mono ?_;rintro e w8 ⟨A8,c8,rfl,hM8,-,-,hs8⟩;rw[HSL.out])
       |(go_at_call 118;refine(zrC.out _ _ _ _ i q hlt zrY hM8 Zi).mono ?_;rintro e w5 ⟨g5,B5,k5,n5,rfl,hz5,hs5⟩;obtain⟨s6,B6,k6,n6,u1,u2,u3,u4,u5⟩:=HE.out w5 Zi))
     go_wp2_with fail
     refine⟨⟨q+1,by omega,by go_num,Zh ?_,?_⟩,by simp[intOf]<;>omega⟩
     ·have hO5:=(HO2.out.ext (Zi:Ext wr w5)).set HP1.out (by rw[zw];exact hlt) zrY hz5;rw[zdT hlt zrY]at hO5;exact hO5
     ·exact((Zi:Ext w w5).setCell (p:=⟨b1,q*2,none⟩) hlo _).setCell (p:=⟨b1,q*2+1,none⟩) hlo _
    ·obtain rfl:q=r:=by omega
     go_wp2_with fail
     exact⟨⟨i+1,by omega,by go_num,Zh (by rw[<-zdU];exact HO2.out),hxq⟩,by simp[intOf]<;>omega⟩
  ·obtain rfl:i=r:=by omega
   go_wp2_with fail
   go_ret;have h:=HO1.out;rw[zdV]at h;exact⟨g,hs,cz,by rw[zw];rfl,h,by rw[zw];exact zsa,zso,hxr.toStep⟩
def zck(w:World)(m:List (List Int))(e:Ending)(w':World):Prop:=∃B d,e= .returned (.tuple #[.slice B m.length d,.bool true])/\StV w' B ((List.range m.length).map (qh m))/\m.length<=d/\d<=9223372036854775807/\Step w w'
def StHd(w:World)(m:List (List Int))(q:Nat)(vs:List Value):Prop:=vs.length=q/\∀i,i<q->∃B c,vs[i]? =some (.slice B (m.length-i) c)/\MatV w B (qh m i)/\m.length-i<=c/\c<=9223372036854775807
theorem StHd.map{w':World}(h:StHd w m q vs)(hk:∀{B:Option Addr}{M:List (List Int)},MatV w B M->MatV w' B M):StHd w' m q vs:=⟨h.1,fun i hi=>by
 obtain⟨B,c,a1,a2,a3⟩:=h.2 i hi;exact⟨B,c,a1,hk a2,a3⟩⟩
theorem StHd.snoc(h:StHd w m q vs)(hM:MatV w B (qh m q))(h1:m.length-q<=c)(h2:c<=9223372036854775807):StHd w m (q+1) (vs++[.slice B (m.length-q) c]):=by
 refine⟨by simp[h.1],fun i hi=>?_⟩;rcases Zl i q with hlt|hge
 ·obtain⟨B',c',a1,a2,a3⟩:=h.2 i hlt;exact⟨B',c',by rw[List.getElem?_append_left (by rw[h.1];exact hlt)];exact a1,a2,a3⟩
 ·obtain rfl:i=q:=by omega
  exact⟨B,c,by rw[List.getElem?_append_right (by rw[h.1];exact Zr),h.1,Nat.sub_self];rfl,hM,h1,h2⟩
theorem StHd.stV(h:StHd w m m.length vs)(ha:Arr w A 101 vs):StV w A ((List.range m.length).map (qh m)):=by
 refine⟨vs,by simp[h.1],ha,fun i M hM=>?_⟩;rw[List.getElem?_map]at hM
 cases hr:(List.range m.length)[i]? with
 |none=>rw[hr]at hM;cases hM
 |some j=>
  have hij:i=j/\i<m.length:=by
   obtain⟨h1,h2⟩:=Zg.1 hr;simp at h1 h2;exact⟨h2,h1⟩
  obtain⟨rfl,hi⟩:=hij;rw[hr]at hM;injection hM with hM
  subst hM;obtain⟨B,c,a1,a2,a3⟩:=h.2 i hi;exact⟨B,c,by rw[zcj];exact a1,a2,by rw[zcj];exact a3.1,a3.2⟩
set_option maxRecDepth 20000 in
theorem zom{b:Nat}(h:MatV w0 A m)(h1:m.length=n)(h3:1<=n)(h4:n<=8)(hn:AllLen m n)(hb:BdM b m)(hb1:1<=b)(hbb:b<=1000000)(hp:Pos (zg (ent m)) n)[hx:Ext w0 w]:
  Cq 70 #[.slice A n c] w (zck w m):=by
 have h0:=h.ext hx;have HLE:=Zh (fun W(e1:Ext w W)=>zbj (w:=W) (c:=c) h0 h1 h3 h4 hn hb hb1 hbb);have HLL:Hid ((zv m).length=n):=Zh (by rw[QJ];exact h1);have HPX:Hid (∀i,i<n->0<(zv m).getD i 0):=Zh (fun i hi=>by
  rw[zdz (by rw[h1];exact hp) (by rw[h1];exact hi)];exact qn hp hi)
 have HBX:Hid (QI (256*(b+1)) (zv m)):=Zh (zay (by omega) hb1 hb);have HSG:Hid (∀(W:World)(k:Nat),k<n->Ext w W->Cq 116 #[.slice A n c,.int .i64 k] W (RetOwnI W (n-k) (qh m k))):=Zh (fun W k hk e=>zol h0 h1 h4 hn hb hb1 hbb hk (fun l hl=>by have:=qn hp (show l<n by omega);omega));have HSL:Hid (∀k,(qh m k).length=n-k):=Zh (fun k=>by rw[zcj,h1]);unfold zck;have HM1:=Zh h1;rw[h1];have hbk:b<=1000000:=hbb
 have hw:IntKind.i64.wrap ((n:Int)-1)=((n-1:Nat):Int):=by rw[show (n:Int)-1=((n-1:Nat):Int) by omega];exact Iw
 clear hn hb hp h1 h;generalize zv m=ds at*
 go_enter Tryz.func70,Tryz.ntmps70;go_wp2_with (go_at_call 71;refine(HLE.out _ Zi).mono ?_;rintro e w1 ⟨BD,dD,rfl,hI1,hd1,hd2,hs1⟩;rw[HLL.out]at hd1|-;have HI:=Zh hI1;clear hI1)
 have zsN:Ext w w1:=Zi;go_loopw [7,23] (fun _ i wr=>∃q:Nat,q<=n-1/\i= .int .i64 q/\Ext w1 wr) (fun _ i _=>n-1-(intOf i).toNat)
 case atStart=>exact⟨0,by omega,rfl,Zi⟩
 case round=>
  obtain⟨q,hq,rfl,hxr⟩:=hrel;have zse:Ext w wr:=zsN.trans hxr;by_cases hlt:q<n-1
  ·obtain⟨bb,ob,g,B,k,d,rfl,y1,y2,hz,hb2⟩:=(HI.out.ext hxr).atD (i:=q) (by rw[HLL.out];omega);have zrZ:=HPX.out q (by omega);have zrT:=hz.bd (HBX.out q) (by omega);generalize ds.getD q 0=z at*
   have hcz:(zk z 0==0)=false:=by rw[qD zrZ];rfl
   have HS:Hid (∀W,Ext wr W->Cq 115 #[.agg #[.bool g,.slice B k d]] W (zy W (.int .i64 (zk z 0)))):=Zh (fun W e=>QR hz (by omega));clear hz zrZ;generalize zk z 0=cz at*
   go_wp2_with (go_at_call 115;refine(HS.out _ Zi).mono ?_;rintro e w2 ⟨rfl,hs2⟩)
   exact⟨⟨q+1,by omega,by go_num,Zi⟩,by simp[intOf]<;>omega⟩
  ·obtain rfl:q=n-1:=by omega
   clear hlt hq;go_wp2_with fail
   go_loopw [8,9,33] (fun s8 _ i wr'=>∃(q:Nat) (A1:Option Addr) (c1:Nat) (vs:List Value),q<=n/\i= .int .i64 q/\s8= .slice A1 q c1/\Hid (Own wr' w.heap.size 101 1 A1 q c1 vs)/\Hid (StHd wr' m q vs)/\Ext w wr') (fun _ _ i _=>n-(intOf i).toNat)
   case atStart=>exact⟨0,none,0,[],by omega,rfl,rfl,Zh (Own.nil _ _ _ _),Zh ⟨rfl,fun i hi=>absurd hi (by omega)⟩,zse⟩
   case round=>
    obtain⟨k,A1,c1,vs,hk,rfl,rfl,HO,HV,hxk⟩:=hrel;by_cases hlt:k<n
    ·have HS:Hid (∀W,Ext w W->Cq 116 #[.slice A n c,.int .i64 k] W (ju W (qh m k))):=Zh (fun W e=>(HSG.out W k hlt e).mono fun _ _ h=>h.mat);have hkl:=HSL.out k;go_wp2_with fail
     refine(HS.out _ Zi).mono ?_;rintro e w5 ⟨B5,c5,rfl,hM5,ztT,zuk,hs5⟩;rw[hkl]at ztT|-
     have hx5:Ext wr w5:=Zi;have HM5:=Zh hM5;clear hM5 hkl;go_wp2_with (at_builtin;refine zM _ rfl _ _ 85 rfl w.heap.size 101 (.slice none 0 0) 1 24 Tryz.underlying85 zcW rfl (by omega) (by omega) A1 k c1 vs rfl (HO.out.ext Zi) (some ⟨w5.heap.size,0,none⟩) 1 1 [.slice B5 (n-k) c5] rfl (Arr.new w5 101 #[.slice B5 (n-k) c5]) rfl (zhh _ _ _) (by omega) (by have:=(hxk.trans hx5).size;simp;omega) ?_;intro A6 c6 w6 zrS hg;have HO6:=Zh zrS;have HG6:=Zh hg;have hx6:Ext w w6:=hg.ext Zi Zr;clear zrS hg)
     refine⟨⟨k+1,A6,c6,vs++[.slice B5 (n-k) c5],by omega,by go_num,rfl,HO6,Zh ?_,hx6⟩,by simp[intOf]<;>omega⟩;have hxa:Ext w5 (w5.alloc (.cells #[.slice B5 (n-k) c5] 101)):=Zi;have h6:=StHd.snoc (m:=m) (HV.out.map fun h=>(h.ext hx5).ext hxa) (HM5.out.ext hxa) (c:=c5) (by rw[HM1.out];exact ztT) zuk;rw[HM1.out]at h6;exact h6.map fun h=>h.grow HG6.out (by decide) (by decide) (by decide)
    ·obtain rfl:k=n:=by omega
     go_wp2_with fail
     go_ret2
     have hst:=HV.out;rw[<-HM1.out]at hst;have ztg:=hst.stV HO.out.arr;rw[HM1.out]at ztg;exact⟨A1,c1,rfl,ztg,HO.out.cap.1,HO.out.cap.2,hxk.toStep⟩
end
section
open La
def jn(x:List Int)(s:Int)(y:List Int):List Int:=(List.range x.length).map fun i=>x.getD i 0+s*y.getD i 0
theorem zeh(x:List Int)(s:Int)(y:List Int):(jn x s y).length=x.length:=by simp[jn]
theorem zhL{s:Int}(hi:i<x.length):(jn x s y).getD i 0=x.getD i 0+s*y.getD i 0:=by
 simp[jn,List.getD,hi]
def zcl(m:List (List Int))(x y:List Int):Int:=zu m.length fun i=>x.getD i 0*(zu m.length fun j=>ent m i j*y.getD j 0)+y.getD i 0*(zu m.length fun j=>ent m i j*x.getD j 0)
theorem zhM(hn:AllLen m m.length)(x y:List Int)(s:Int)(hx:x.length=m.length)(hy:y.length=m.length):zh m (jn x s y)=zh m x+s*zcl m x y+s*s*zh m y:=by
 rw[<-zbn hn x hx,<-zbn hn y hy,<-zbn hn (jn x s y) (by rw[zeh,hx])];unfold qB zcl;have h1:(zu m.length fun i=>(jn x s y).getD i 0*zu m.length fun j=>ent m i j*(jn x s y).getD j 0)=
   zu m.length fun i=>(x.getD i 0*(zu m.length fun j=>ent m i j*x.getD j 0))+(s*(x.getD i 0*(zu m.length fun j=>ent m i j*y.getD j 0)+y.getD i 0*(zu m.length fun j=>ent m i j*x.getD j 0))+s*s*(y.getD i 0*(zu m.length fun j=>ent m i j*y.getD j 0))):=by
  refine ZY fun i hi=>?_
  have h2:(zu m.length fun j=>ent m i j*(jn x s y).getD j 0)=(zu m.length fun j=>ent m i j*x.getD j 0)+s*(zu m.length fun j=>ent m i j*y.getD j 0):=by
   rw[<-zch,<-zbm];refine ZY fun j hj=>?_
   rw[zhL (by omega)];grind
  rw[h2,zhL (by omega)];generalize (zu m.length fun j=>ent m i j*x.getD j 0)=X;generalize (zu m.length fun j=>ent m i j*y.getD j 0)=Y;grind
 rw[h1,zbm,zbm,zch,zch];omega
end
end Go.Proofs.YtcmkopogafchiaaGreat

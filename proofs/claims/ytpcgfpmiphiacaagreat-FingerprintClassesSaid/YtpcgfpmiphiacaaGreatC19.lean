import Derived.Test.YtpcgfpmiphiacaaGreatC17
set_option maxHeartbeats 8000000
set_option linter.unusedVariables false
set_option linter.unusedSimpArgs false
namespace Go.Proofs.YtpcgfpmiphiacaaGreat
variable {b z:Int} {m:List (List Int)} {x y:List Int} {vs:List Value} {c d e' i k n q:Nat} {A B C:Option Addr} {w w0 w1 w2:World}
section
open Go.RowKit
open La
theorem zoa{b:Nat}(h:MatV w0 A m)(h1:m.length=n)(h3:1<=n)(h4:n<=8)(hn:AllLen m n)(hb:BdM b m)(hb1:1<=b)(hbb:b<=1000000)(hp:Pos (zh (ent m)) n)(hs:Sym (zh (ent m)))(hfu:∀r,r<n->Qs (zh (ent m)) r)(hlo:∀p,p+1<n->qG (zh (ent m)) p)[hx:Ext w0 w]:
  Cq 216 #[.slice A n c] w (zy w (.bool true)):=by
 have h0:=h.ext hx;have HLE:=Zh (fun W(e1:Ext w W)=>zbo (w:=W) (c:=c) h0 h1 h3 h4 hn hb hb1 hbb);have HLL:Hid ((zu m).length=n):=Zh (by rw[QI];exact h1);have HSZ:Hid (∀(W1 W:World)(B:Option Addr)(d i j:Nat),i<n->j<i->IntsV W1 B (zu m)->Ext w W->Ext W1 W->Cq 119 #[.slice A n c,.slice B n d,.int .i64 i,.int .i64 j] W (zy W (.bool true))):=Zh (fun W1 W B d i j hi hj hI e1 e2=>by
  have:=zhu (w:=W) (c:=c) (d:=d) h0 hI h1 h4 hn hb hb1 hbb hi (show j<n by omega);rwa [decide_eq_true ((zhz h1 hp (show j<n by omega)).2 (hfu i hi j hj))]at this)
 have HLV:Hid (∀(W1 W:World)(B:Option Addr)(d i:Nat),i<n->1<=i->IntsV W1 B (zu m)->Ext w W->Ext W1 W->Cq 125 #[.slice A n c,.slice B n d,.int .i64 i] W (zy W (.bool true))):=Zh (fun W1 W B d i hi hi1 hI e1 e2=>by
  have:=zhv (w:=W) (c:=c) (d:=d) h0 hI h1 h4 hn hb hb1 hbb hi hi1;obtain⟨p,rfl⟩:∃p,i=p+1:=⟨i-1,by omega⟩;rwa [decide_eq_true ((zhA h1 hp hs hi).2 (hlo p hi))]at this)
 clear hn hb hp hs h1 hfu hlo;go_enter Tryz.func216,Tryz.ntmps216;go_wp2_with (go_at_call 87;refine(HLE.out _ Zi).mono ?_;rintro e w1 ⟨BD,dD,rfl,hI1,-,-,hs1⟩;rw[HLL.out];have HI:=Zh hI1;clear hI1)
 have zs4:Ext w w1:=Zi;go_loopw [5,6,14] (fun _ _ i wr=>∃k:Nat,k<=n/\i= .int .i64 k/\Ext w1 wr) (fun _ _ i _=>n-(intOf i).toNat)
 case atStart=>exact⟨0,by omega,rfl,Zi⟩
 case round=>
  obtain⟨k,hk,rfl,hxr⟩:=hrel;by_cases hlt:k<n
  ·go_wp2_with fail
   go_loopw [6] (fun s6 wr=>∃q:Nat,q<=k/\s6= .int .i64 q/\Ext w1 wr) (fun s6 _=>k-(intOf s6).toNat)
   case atStart=>exact⟨0,by omega,rfl,Zi⟩
   case round=>
    obtain⟨q,hq,rfl,hxq⟩:=hrel;have zsP:Ext w wr:=zs4.trans hxq;by_cases hqk:q<k
    ·have HSB:=Zh (fun W(e1:Ext wr W)=>HSZ.out w1 W BD dD k q hlt hqk HI.out (zsP.trans e1) (hxq.trans e1));go_wp2_with (go_at_call 119;refine(HSB.out _ Zi).mono ?_;rintro e w6 ⟨rfl,hs6⟩)
     exact⟨⟨q+1,by omega,by go_num,Zi⟩,by simp[intOf]<;>omega⟩
    ·by_cases hk0:k=0
     ·subst hk0;go_wp2_with fail
      exact⟨⟨1,by omega,rfl,hxq⟩,by simp[intOf]<;>omega⟩
     ·have HLB:=Zh (fun W(e1:Ext wr W)=>HLV.out w1 W BD dD k hlt (by omega) HI.out (zsP.trans e1) (hxq.trans e1));have hgt:decide ((0:Int)<(k:Int))=true:=by simp;omega
      have zw8:0<k:=by omega
      have zw9:(0:Int)<(k:Int):=by omega
      clear hk0;go_wp2_with (go_at_call 125;refine(HLB.out _ Zi).mono ?_;rintro e w6 ⟨rfl,hs6⟩)
      exact⟨⟨k+1,by omega,by go_num,Zi⟩,by simp[intOf]<;>omega⟩
  ·have zsr:Ext w wr:=zs4.trans hxr;go_wp2_with fail
   go_ret;exact⟨rfl,⟨zsr.below⟩⟩
theorem LLLed.val(h:LLLed m):j3 m:=⟨fun i hi j hj=>h.sym i j hi (by omega),zdD.2 h.pos⟩
theorem LLLed.detF(h:LLLed m):detF m<=10000:=by
 rw[zdC h.len1 (fun l hl=>by have:=qN h.pos (k:=l) (by omega);omega)];exact h.det
theorem LLLed.symO(h:LLLed m):Sym (zh (ent m)):=fun i j=>by
 by_cases hi:i<m.length
 ·by_cases hj:j<m.length
  ·unfold zh;rw[h.sym i j hi hj]
  ·unfold zh;rw[qO h.all (i:=i) (j:=j) (.inr (by omega)),qO h.all (i:=j) (j:=i) (.inl (by omega))]
 ·unfold zh;rw[qO h.all (i:=i) (j:=j) (.inl (by omega)),qO h.all (i:=j) (j:=i) (.inr (by omega))]
theorem zhK(h:MatA w0 A m)(hL:LLLed m)(h1:m.length=n)(h64:qT m)(hb:BdM 199 m)[hx:Ext w0 w]:
  Cq 166 #[.slice A n c] w (zy w (.bool true)):=by
 have h3:1<=n:=by rw[<-h1];exact hL.len1
 have h4:n<=8:=by rw[<-h1];exact hL.len8
 have hn:AllLen m n:=by rw[<-h1];exact hL.all
 have hp:Pos (zh (ent m)) n:=by rw[<-h1];exact hL.pos
 have HFI:Hid (∀W,Ext w W->Cq 69 #[.slice A n c] W (zbj W n m)):=Zh (fun W e=>by
  have:Ext w0 W:=hx.trans e;have:=zhi (w:=W) (c:=c) h n (by omega) (by omega) h3 (by omega) hn h64;rwa [h1]at this)
 have HVA:Hid (∀(W1 W:World)(A1:Option Addr)(c1:Nat),MatV W1 A1 m->Ext W1 W->Cq 61 #[.slice A1 n c1] W (fun e w'=>∃v:Int,e= .returned (.int .i64 v)/\(v=0↔true=true)/\0<=v/\v<=5/\Step W w')):=Zh (fun W1 W A1 c1 hM e=>zec true (by simp[hL.val]) hM h1 h3 h4 hn hb (by omega) (by omega));have HSM:Hid (∀(W1 W:World)(A1:Option Addr)(c1:Nat),MatV W1 A1 m->Ext W1 W->Cq 62 #[.slice A1 n c1] W (zy W (.bool true))):=Zh (fun W1 W A1 c1 hM e=>by
  have:=zht (w:=W) (c:=c1) hM h1 h3 h4 hn hb (by omega) (by omega);rwa [decide_eq_true hL.detF]at this)
 have HRE:Hid (∀(W1 W:World)(A1:Option Addr)(c1:Nat),MatV W1 A1 m->Ext W1 W->Cq 216 #[.slice A1 n c1] W (zy W (.bool true))):=Zh (fun W1 W A1 c1 hM e=>zoa hM h1 h3 h4 hn hb (by omega) (by omega) hp hL.symO (fun r hr=>hL.full r (by omega)) (fun p hp=>hL.lov p (by omega)));have HL:=Zh h1;clear hn hb h64 h1 hp hL;go_enter Tryz.func166,Tryz.ntmps166;go_wp2_with (first
  |(go_at_call 69;refine(HFI.out _ Zi).mono ?_;rintro e w1 ⟨g1,zu0,c1,rfl,hO1,-,-,hs1⟩;rw[HL.out];have HM:=Zh hO1.mat;clear hO1)
  |(go_at_call 61;refine(HVA.out _ _ _ _ HM.out Zi).mono ?_;rintro e w2 ⟨v,rfl,hv,hv0,hv5,hs2⟩;have hvz:v=0:=(hv.2 (by trivial));subst hvz;clear hv hv0 hv5)
  |(go_at_call 62;refine(HSM.out _ _ _ _ HM.out Zi).mono ?_;rintro e w3 ⟨rfl,hs3⟩)
  |(go_at_call 216;refine(HRE.out _ _ _ _ HM.out Zi).mono ?_;rintro e w4 ⟨rfl,hs4⟩))
 go_ret;exact⟨rfl,Step.of _ _⟩
end
section
open La
def zL(m:List (List Int))(b:Int)(k:Nat)(t:List Int):Int:=zY (zm m m.length) (zr m m.length) k (left (ent m) b (k+1) t) t
def Za(m:List (List Int))(b:Int)(k:Nat)(t:List Int):Int:=Z4 (zm m m.length) (zr m m.length) k (left (ent m) b (k+1) t) t
def Z9(m:List (List Int))(b:Int)(k:Nat)(t:List Int):Nat:=(Za m b k t-zL m b k t+1).toNat
theorem zob(h:0<zI x):zS x=x:=by unfold zS;rw[if_neg (by omega)]
theorem zoc(n:Nat)(F:Nat->Int):zt (n+1) F=F 0+zt n fun i=>F (i+1):=by
 induction n with
 |zero=>simp[zt]
 |succ n ih=>rw[qV,ih,qV];omega
theorem JZ(g:Nat->Int)(t:List Int):∀k,ZW g k t=zt t.length fun i=>g (k+i)*t.getD i 0:=by
 induction t with
 |nil=>intro k;rfl
 |cons c t ih=>
  intro k;rw[ZW,ih (k+1),List.length_cons,zoc];grind
theorem zcp(a:Int)(n:Nat)(F:Nat->Int):(zt n fun i=>a*F i)=a*zt n F:=by
 induction n with
 |zero=>simp[zt]
 |succ n ih=>rw[qV,ih,qV,Int.mul_add]
theorem zbr(n:Nat)(F G:Nat->Int):(zt n fun i=>F i+G i)=zt n F+zt n G:=by
 induction n with
 |zero=>simp[zt]
 |succ n ih=>rw[qV,ih,qV,qV];omega
def qP(m:List (List Int))(x y:List Int):Int:=zt m.length fun i=>x.getD i 0*zt m.length fun j=>ent m i j*y.getD j 0
theorem zbs(hn:AllLen m m.length)(x:List Int)(hx:x.length=m.length):qP m x x=zg m x:=by
 rw[zbf hn x hx];unfold qP qE jJ;rw[JZ,hx];refine qi fun i _=>?_
 rw[JZ,hx,Int.mul_comm];simp only[Nat.zero_add];rfl
theorem zod(hr:RedOK m)(hk:k<m.length)(za:Int)(t:List Int):
  lE (ent m) k (0::t)*lE (ent m) k (0::t)-zB (ent m) (k+1)*(qE (ent m) k (0::t)-za*zB (ent m) k)=zB (ent m) k*left (ent m) za (k+1) t:=by
 have hs:=jj (qh hr.small) (fun i j hi hj=>((of_decide_eq_true hr.small).2.2.2 i hi j hj).1);have:=zdG hs (hr.pos.le (by omega:k+1<=m.length)) 0 t;unfold left;grind
def Zp(m:List (List Int))(b:Int):Nat->List Int->List (List Int)
 |0,t=>(List.range (Z9 m b 0 t)).map fun(j:Nat)=>(zL m b 0 t+(j:Int))::t
 |k+1,t=>(List.range (Z9 m b (k+1) t)).flatMap fun(j:Nat)=>Zp m b k ((zL m b (k+1) t+(j:Int))::t)
theorem zoe(hr:RedOK m)(x:List Int)(k:Nat):∀t:List Int,k<m.length->t.length=m.length-1-k->0<=left (ent m) b (k+1) t->
  (x∈Zp m b k t↔∃p:List Int,p.length=k+1/\x=p++t/\0<=left (ent m) b 0 x):=by
 induction k with
 |zero=>
  intro t hk ht h0;have hin:∀c,(zL m b 0 t<=c/\c<=Za m b 0 t)↔0<=left (ent m) b 0 (c::t):=fun c=>jY hr hk t ht h0 c
  rw[Zp];simp only[List.mem_map,List.mem_range];constructor
  ·rintro⟨j,hj,rfl⟩;unfold Z9 at hj;exact⟨[zL m b 0 t+(j:Int)],rfl,rfl,(hin _).1 ⟨by omega,by omega⟩⟩
  ·rintro⟨p,hp,rfl,h2⟩;obtain⟨c,rfl⟩:∃c,p=[c]:=List.length_eq_one_iff.1 hp;have h3:=(hin c).2 h2;refine⟨(c-zL m b 0 t).toNat,by unfold Z9;omega,?_⟩;rw[show zL m b 0 t+(((c-zL m b 0 t).toNat:Nat):Int)=c by omega];rfl
 |succ k ih=>
  intro t hk ht h0;have hin:∀c,(zL m b (k+1) t<=c/\c<=Za m b (k+1) t)↔0<=left (ent m) b (k+1) (c::t):=fun c=>jY hr hk t ht h0 c
  rw[Zp];simp only[List.mem_flatMap,List.mem_range];constructor
  ·rintro⟨j,hj,hx⟩;have hk0:0<=left (ent m) b (k+1) ((zL m b (k+1) t+(j:Int))::t):=jZ hr t hk ht h0 (j:=j) hj;obtain⟨p,hp,rfl,h2⟩:=(ih _ (by omega) (by simp[ht];omega) hk0).1 hx;exact⟨p++[zL m b (k+1) t+(j:Int)],by simp[hp],by simp,h2⟩
  ·rintro⟨p,hp,rfl,h2⟩;obtain⟨q,c,rfl,hq⟩:=zcb hp;have hs:=zgN hr b q 0 (c::t) (by simp[ht];omega) (by simpa using h2);rw[hq,Nat.zero_add]at hs;have hc:=(hin c).2 hs;refine⟨(c-zL m b (k+1) t).toNat,by unfold Z9;omega,?_⟩;grind
theorem zhL(hr:RedOK m)(hb:0<=b)(x:List Int):x∈Zp m b (m.length-1) []↔x.length=m.length/\zg m x<=b:=by
 have hl:=Qy hr.small;rw[zoe hr x (m.length-1) [] (by omega) (by simp) (JU hr hb)];constructor
 ·rintro⟨p,hp,rfl,h2⟩;have hpl:(p++[]).length=m.length:=by grind
  rw[jK (qh hr.small) b _ hpl]at h2;grind
 ·rintro⟨h1,h3⟩;refine⟨x,by omega,by simp,?_⟩;rw[jK (qh hr.small) b _ h1];omega
def Jr(p:Int×List Int):List Int:=p.1::p.2
def Zq(p q:Int×List Int):Bool:=decide (zC (Jr p) (Jr q)<0)
theorem zof{p q:Int×List Int}(h:Jr p=Jr q):p=q:=by
 obtain⟨a,x⟩:=p;obtain⟨b,y⟩:=q;simpa[Jr] using h
theorem zog{p q r:Int×List Int}(h1:Zq p q=true)(h2:Zq q r=true):Zq p r=true:=by
 unfold Zq at*
 rw[decide_eq_true_eq] at*
 exact zb7 _ _ _ h1 h2
theorem zoh{p q:Int×List Int}(h1:Zq p q=false)(h2:Zq q p=false):p=q:=by
 unfold Zq at*
 rw[decide_eq_false_iff_not] at*
 rw[Jh]at h2;exact zof (zal _ _ (by omega))
def qa:List (Int×List Int)->Int×List Int->Nat
 |[],_=>0
 |y::l,x=>if Zq y x then qa l x+1 else 0
theorem zef:∀(l:List (Int×List Int))(x:Int×List Int)(k:Nat),(∀j y,j<k->l[j]? =some y->Zq y x=true)->k<=l.length->(∀y,l[k]? =some y->Zq y x=false)->qa l x=k
 |[],x,k,_,hk,_=>by simp at hk;simp[qa,hk]
 |y::l,x,0,_,_,h=>by have:=h y rfl;simp[qa,this]
 |y::l,x,k+1,h1,hk,h2=>by
  have e:=h1 0 y (by omega) rfl;rw[qa,if_pos e,zef l x k (fun j z hj hz=>h1 (j+1) z (by omega) (by grind)) (by grind) (fun z hz=>h2 z (by grind))]
def Zj(l:List (Int×List Int))(x:Int×List Int):List (Int×List Int):=
 match l[qa l x]? with
 |some y=>if Zq x y then l.take (qa l x)++x::l.drop (qa l x) else l
 |none=>l++[x]
theorem zhM:∀(l:List (Int×List Int))(x:Int×List Int),l.Pairwise (fun p q=>Zq p q=true)->(Zj l x).Pairwise (fun p q=>Zq p q=true)/\∀y,y∈Zj l x↔y∈l∨y=x
 |[],x,_=>by simp[Zj,qa]
 |y::l,x,h=>by
  by_cases hyx:Zq y x=true
  ·have hp:(y::l)[qa (y::l) x]? =l[qa l x]? :=by simp[qa,hyx]
   have e:Zj (y::l) x=y::Zj l x:=by
    unfold Zj;rw[hp];simp only[qa,if_pos hyx];grind
   rw[List.pairwise_cons]at h;obtain⟨h1,h2⟩:=zhM l x h.2;rw[e,List.pairwise_cons];grind
  ·have e0:qa (y::l) x=0:=by simp[qa,hyx]
   have e:Zj (y::l) x=if Zq x y then x::y::l else y::l:=by
    unfold Zj;grind
   rw[e];by_cases hxy:Zq x y=true
   ·rw[if_pos hxy];refine⟨List.pairwise_cons.2 ⟨fun z hz=>?_,h⟩,fun z=>?_⟩
    ·rcases List.mem_cons.1 hz with rfl|hz
     ·exact hxy
     ·exact zog hxy ((List.pairwise_cons.1 h).1 z hz)
    grind
   ·rw[if_neg hxy];have hxe:=zoh (p:=y) (q:=x) (by simpa using hyx) (by simpa using hxy);grind
def Zs(m:List (List Int))(xs:List (List Int)):List (Int×List Int):=
 xs.foldl (fun l x=>if 0<zI x then Zj l (zg m x,x) else l) []
theorem zhN(m:List (List Int))(xs:List (List Int)):∀l:List (Int×List Int),l.Pairwise (fun p q=>Zq p q=true)->
  (xs.foldl (fun l x=>if 0<zI x then Zj l (zg m x,x) else l) l).Pairwise (fun p q=>Zq p q=true)/\∀y,y∈xs.foldl (fun l x=>if 0<zI x then Zj l (zg m x,x) else l) l↔y∈l∨∃x∈xs,0<zI x/\y=(zg m x,x):=by
 induction xs with
 |nil=>intro l h;exact⟨h,fun y=>by simp⟩
 |cons x xs ih=>
  intro l h;simp only[List.foldl_cons];by_cases hx:0<zI x
  ·rw[if_pos hx];obtain⟨h1,h2⟩:=zhM l (zg m x,x) h;grind
  ·rw[if_neg hx];obtain⟨h3,h4⟩:=ih _ h;refine⟨h3,fun y=>?_⟩;rw[h4];simp only[List.mem_cons];constructor
   ·rintro(h|⟨z,hz,a,b⟩)
    ·exact .inl h
    ·exact .inr ⟨z,.inr hz,a,b⟩
   grind
theorem zhO(hr:RedOK m)(hb:0<=b):VecList m b false ((Zs m (Zp m b (m.length-1) [])).map Prod.snd)/\Zs m (Zp m b (m.length-1) [])=((Zs m (Zp m b (m.length-1) [])).map Prod.snd).map fun x=>(zg m x,x):=by
 obtain⟨h1,h2⟩:=zhN m (Zp m b (m.length-1) []) [] List.Pairwise.nil;have hm:∀y,y∈Zs m (Zp m b (m.length-1) [])↔∃x,(x.length=m.length/\0<zI x/\zg m x<=b)/\y=(zg m x,x):=fun y=>by
  unfold Zs;rw[h2];simp only[zhL hr hb];grind
 have he:∀y∈Zs m (Zp m b (m.length-1) []),y=(zg m y.2,y.2):=fun y hy=>by grind
 refine⟨⟨?_,fun x=>?_⟩,?_⟩
 ·rw[List.pairwise_map];refine List.Pairwise.imp_of_mem ?_ h1;intro p q hp hq h;unfold Zq at h;rw[decide_eq_true_eq,he p hp,he q hq]at h;exact h
 ·rw[List.mem_map];constructor
  ·grind
  ·rintro⟨a1,a2,a3,-⟩;exact⟨(zg m x,x),(hm _).2 ⟨x,⟨a1,a2,a3⟩,rfl⟩,rfl⟩
 ·rw[List.map_map];conv=>lhs;rw[<-List.map_id (Zs m (Zp m b (m.length-1) []))]
  exact List.map_congr_left fun y hy=>he y hy
end
section
open Go.RowKit
open La
theorem zhP(h:Ints w0 A 2 .i64 x)(h1:x.length<=1099511627776)(hb:∀a∈x,-1099511627776<=a/\a<=1099511627776)[hx:Ext w0 w]:
  Cq 93 #[.slice A x.length c] w (Zv w (.bool true)):=by
 have h0:=h.ext hx;have HB:=Zh hb;clear hb h;go_enter Tryz.func93,Tryz.ntmps93;go_wp2;go_loop [4,7] (fun _ i=>∃k:Nat,k<=x.length/\i= .int .i64 k) (fun _ i=>x.length-(intOf i).toNat)
 case atStart=>exact⟨0,by omega,rfl⟩
 case round=>
  obtain⟨k,hk,rfl⟩:=hrel;by_cases hlt:k<x.length
  ·obtain⟨b1,o1,a,rfl,ha,g1,g2⟩:=h0.at_ hlt;have hab:=HB.out a (Zm ha);have d1:decide (a< -1099511627776)=false:=by simp;omega
   have d2:decide (1099511627776<a)=false:=by simp;omega
   clear ha;go_wp2;exact⟨⟨k+1,by omega,by go_num⟩,by simp[intOf];omega⟩
  ·go_wp2;go_ret;exact⟨rfl,rfl⟩
theorem zoi(h:Ints w0 A 2 .i64 x)(h1:x.length<=1099511627776)(hb:∀a∈x,-1099511627776<=a/\a<=1099511627776)[hx:Ext w0 w]:
  Cq 167 #[.int .i64 x.length,.slice A x.length c] w (Zv w (.bool true)):=by
 have HI:=Zh (fun W(e:Ext w0 W)=>zhP (w:=W) (c:=c) h h1 hb);clear hb h;go_enter Tryz.func167,Tryz.ntmps167;go_wp2_with (go_at_call 93;refine(HI.out _ Zi).mono ?_;rintro e w1 ⟨rfl,rfl⟩)
 go_ret;exact⟨rfl,rfl⟩
theorem LLLed.fits(h:LLLed m):qT m:=(qA h.red).form.fits
theorem zoj(h1:-262144<=z)(h2:z<=262144):Bd 199 z:=by
 unfold Bd;have:z.natAbs<=262144:=by omega
 exact Nat.lt_of_le_of_lt this (by decide)
theorem LLLed.bd(h:LLLed m):BdM 199 m:=fun i j=>by
 by_cases hi:i<m.length
 ·by_cases hj:j<m.length
  ·have hr:m[i]? =some m[i]:=Ze hi;have hl:m[i].length=m.length:=h.all _ (List.getElem_mem hi);have he:ent m i j=m[i][j]'(by omega):=JL hr (Ze (by omega));have:=(zdN h.red).ent m[i] (List.getElem_mem hi) (m[i][j]'(by omega)) (List.getElem_mem _);rw[he];exact zoj this.1 this.2
  ·rw[qO h.all (.inr (by omega))];exact Bd.zero _
 ·rw[qO h.all (.inl (by omega))];exact Bd.zero _
theorem zhQ(hM:MatA w0 A m)(hL:LLLed m)(h:Ints w1 B 2 .i64 x)(hn:x.length=m.length)(hb:∀a∈x,-1099511627776<=a/\a<=1099511627776)[hx:Ext w0 w][hy:Ext w1 w]:
  Cq 95 #[.slice A m.length c,.slice B m.length d] w (zy w (.bool true)):=by
 have h8:=hL.len8;have HR:=Zh (fun W(e:Ext w0 W)=>zhK (w:=W) (c:=c) hM hL rfl hL.fits hL.bd);have HF:Hid (∀W,Ext w1 W->Cq 167 #[.int .i64 m.length,.slice B m.length d] W (Zv W (.bool true))):=Zh (fun W(e:Ext w1 W)=>by
  have:=zoi (w:=W) (c:=d) h (by omega) hb;rwa [hn]at this)
 clear hb h hM hL hn;generalize m.length=n at*
 go_enter Tryz.func95,Tryz.ntmps95;go_wp2_with (first
  |(go_at_call 166;refine(HR.out _ Zi).mono ?_;rintro e w2 ⟨rfl,hs2⟩)
  |(go_at_call 167;refine(HF.out _ Zi).mono ?_;rintro e w3 ⟨rfl,rfl⟩))
 go_ret;exact⟨rfl,Step.of _ _⟩
def zaD(w:World)(zs:List Int)(e:Ending)(w':World):Prop:=∃B d,e= .returned (.slice B zs.length d)/\IntsV w' B zs/\zs.length<=d/\d<=9223372036854775807/\Step w w'
theorem zcq(h:Ints w0 A 2 .i64 x)(h1:x.length<=1000)(hb:∀a∈x,-9223372036854775808<=a/\a<=9223372036854775807)[hx:Ext w0 w]:
  Cq 155 #[.slice A x.length c] w (zaD w x):=by
 have h0:=h.ext hx;have HB:=Zh hb;obtain⟨n,hn⟩:=Xz x.length;unfold zaD;rw[<-hn]at h1|-
 have HL:=Zh hn;clear hb h hn;go_enter Tryz.func155,Tryz.ntmps155;go_wp2;go_loopw [3,5,8] (fun s3 _ i wr=>∃(q:Nat) (A1:Option Addr) (c1:Nat) (vs:List Value),q<=n/\i= .int .i64 q/\s3= .slice A1 q c1/\Hid (Own wr w.heap.size 149 2 A1 q c1 vs)/\Hid (VsOf wr vs (x.take q))/\Ext w wr) (fun _ _ i _=>n-(intOf i).toNat)
 case atStart=>exact⟨0,none,0,[],by omega,rfl,rfl,Zh (Own.nil _ _ _ _),Zh (fun i z hz=>by simp at hz),Zi⟩
 case round=>
  obtain⟨q,A1,c1,vs,hq,rfl,rfl,HO,HV,hxr⟩:=hrel;by_cases hlt:q<n
  ·have hlx:q<x.length:=by rw[<-HL.out];exact hlt
   obtain⟨b1,o1,a,rfl,ha,g1,g2⟩:=(h0.ext hxr).at_ hlx;have hab:=HB.out a (Zm ha);have hae:Hid (x.getD q 0=a):=Zh (by simp[List.getD,ha]);have HS:=Zh (fun W=>Qf a hab.1 hab.2 W);clear ha;go_wp2_with fail
   refine(HS.out _).mono ?_;rintro e w5 ⟨g5,B5,k5,d5,rfl,hz5,hs5⟩;have hx5:Ext wr w5:=Zi;have HZ5:=Zh hz5;clear hz5;go_wp2_with (at_builtin;refine zM _ rfl _ _ 94 rfl w.heap.size 149 (.agg #[.bool false,.slice none 0 0]) 2 32 Tryz.underlying94 jd rfl (by omega) (by omega) A1 q c1 vs rfl (HO.out.ext Zi) (some ⟨w5.heap.size,0,none⟩) 1 1 [.bool g5,.slice B5 k5 d5] rfl (Arr.new w5 149 #[.bool g5,.slice B5 k5 d5]) rfl (zci _ _ _ _) (by omega) (by have:=(hxr.trans hx5).size;simp;omega) ?_;intro A6 c6 w6 zr5 hg;have HO6:=Zh zr5;have HG6:=Zh hg;have hx6:Ext w w6:=hg.ext Zi Zr;clear zr5 hg)
   refine⟨⟨q+1,A6,c6,vs++[.bool g5,.slice B5 k5 d5],by omega,by go_num,rfl,HO6,Zh ?_,hx6⟩,by simp[intOf]<;>omega⟩;have hxa:Ext w5 (w5.alloc (.cells #[.bool g5,.slice B5 k5 d5] 149)):=Zi;have hv5:VsOf (w5.alloc (.cells #[.bool g5,.slice B5 k5 d5] 149)) (vs++[.bool g5,.slice B5 k5 d5]) (x.take q++[x.getD q 0]):=VsOf.snoc (HV.out.map fun hz=>(hz.ext hx5).ext hxa) (by rw[HO.out.len,List.length_take,<-HL.out,Nat.min_eq_left hq]) (by rw[hae.out];exact HZ5.out.ext hxa)
   rw[zas (by rw[<-HL.out];exact hlt)];exact hv5.grow HG6.out (by decide)
  ·obtain rfl:q=n:=by omega
   go_wp2;go_ret;have h2:=HV.out;rw[List.take_of_length_le (by rw[<-HL.out];exact Zr)]at h2;exact⟨A1,c1,rfl,h2.intsV (by rw[HO.out.len,<-HL.out]) HO.out.arr (Ext.refl _),HO.out.cap.1,HO.out.cap.2,hxr.toStep⟩
def ZR(m:List (List Int))(n:Nat)(x:List Int):List Int:=m.map fun r=>zt n fun i=>r.getD i 0*x.getD i 0
theorem zbt(m:List (List Int))(n:Nat)(x:List Int):(ZR m n x).length=m.length:=by simp[ZR]
theorem zeg{r:List Int}(hr:m[i]? =some r):(ZR m n x).getD i 0=zt n fun j=>r.getD j 0*x.getD j 0:=by
 simp[ZR,List.getD,hr]
theorem zhR(hM:MatV w0 A m)(hX:IntsV w1 B x)(h1:1<=m.length)(h2:m.length<=16)(h3:1<=n)(h4:n<=16)(hn:AllLen m n)(hxl:x.length=n)(hk:k<=1000000000000)(hbm:∀i j,Bd k (ent m i j))(hbx:QH k x)[hx:Ext w0 w][hy:Ext w1 w]:
  Cq 168 #[.slice A m.length c,.slice B n d] w (zax w (ZR m n x)):=by
 have h0:=hM.ext hx;have hX0:=hX.ext hy;have HSH:=Zh (fun W(e:Ext w W)=>zbl (w:=W) (c:=c) h0 n h1 h2 h3 h4 hn);have HDT:Hid (∀(W0 W:World)(A1:Option Addr)(c1 i:Nat)(r:List Int),m[i]? =some r->IntsV W0 A1 r->Ext W0 W->Ext w W->Cq 156 #[.slice A1 n c1,.slice B n d] W (zD W ((ZR m n x).getD i 0))):=Zh (fun W0 W A1 c1 i r hr hI e1 e2=>by
  have hrl:r.length=n:=hn r (Zm hr);rw[zeg hr];refine zbm hI hX0 hrl hxl h4 hk (fun j=>?_) hbx;have:=hbm i j;unfold ent at this;simp only[List.getD,hr,Option.getD_some]at this;exact this)
 have HAL:Hid (∀(i:Nat)(r:List Int),m[i]? =some r->r.length=n):=Zh (fun i r hr=>hn r (Zm hr));have HAR:Hid ((ZR m n x).length=m.length):=Zh (zbt m n x);unfold zax;obtain⟨Z,hZ⟩:=Xz (ZR m n x);rw[<-hZ]at HDT HAR|-
 obtain⟨zd,hrw⟩:=Xz m.length;rw[<-hrw]at HSH HAR h1 h2|-
 have HRW:=Zh hrw;clear hn hM hX hX0 hxl hbm hbx hZ hrw;go_enter Tryz.func168,Tryz.ntmps168;go_wp2_with (go_at_call 126;refine(HSH.out _ Zi).mono ?_;rintro e w2 ⟨rfl,hs2⟩)
 have zsQ:Ext w w2:=Zi;go_loopw [9,11,28] (fun s9 _ i wr=>∃(q:Nat) (A1:Option Addr) (c1:Nat) (vs:List Value),q<=zd/\i= .int .i64 q/\s9= .slice A1 q c1/\Hid (Own wr w2.heap.size 149 2 A1 q c1 vs)/\Hid (VsOf wr vs (Z.take q))/\Ext w2 wr) (fun _ _ i _=>zd-(intOf i).toNat)
 case atStart=>exact⟨0,none,0,[],by omega,rfl,rfl,Zh (Own.nil _ _ _ _),Zh (fun i z hz=>by simp at hz),Zi⟩
 case round=>
  obtain⟨q,A1,c1,vs,hq,rfl,rfl,HO,HV,hxr⟩:=hrel;have zsr:Ext w wr:=zsQ.trans hxr;by_cases hlt:q<zd
  ·obtain⟨r,hr⟩:∃r,m[q]? =some r:=⟨_,Ze (by rw[<-HRW.out];exact hlt)⟩;have hrl:=HAL.out q r hr;obtain⟨b1,o1,B1,d1,rfl,g1,g2,-,-,g3⟩:=(h0.ext zsr).at_ hr;rw[hrl]at g1;have HD:=Zh (fun W(e:Ext wr W)=>HDT.out wr W B1 d1 q r hr g2 e (zsr.trans e));clear hr hrl g2;go_wp2_with fail
   refine(HD.out _ Zi).mono ?_;rintro e w5 ⟨g5,B5,k5,d5,rfl,hz5,hs5⟩;have hx5:Ext wr w5:=Zi;have HZ5:=Zh hz5;clear hz5;go_wp2_with (at_builtin;refine zM _ rfl _ _ 94 rfl w2.heap.size 149 (.agg #[.bool false,.slice none 0 0]) 2 32 Tryz.underlying94 jd rfl (by omega) (by omega) A1 q c1 vs rfl (HO.out.ext Zi) (some ⟨w5.heap.size,0,none⟩) 1 1 [.bool g5,.slice B5 k5 d5] rfl (Arr.new w5 149 #[.bool g5,.slice B5 k5 d5]) rfl (zci _ _ _ _) (by omega) (by have:=(hxr.trans hx5).size;simp;omega) ?_;intro A6 c6 w6 zr5 hg;have HO6:=Zh zr5;have HG6:=Zh hg;have hx6:Ext w2 w6:=hg.ext Zi Zr;clear zr5 hg)
   refine⟨⟨q+1,A6,c6,vs++[.bool g5,.slice B5 k5 d5],by omega,by go_num,rfl,HO6,Zh ?_,hx6⟩,by simp[intOf]<;>omega⟩;have hxa:Ext w5 (w5.alloc (.cells #[.bool g5,.slice B5 k5 d5] 149)):=Zi;have hv5:VsOf (w5.alloc (.cells #[.bool g5,.slice B5 k5 d5] 149)) (vs++[.bool g5,.slice B5 k5 d5]) (Z.take q++[Z.getD q 0]):=VsOf.snoc (HV.out.map fun hz=>(hz.ext hx5).ext hxa) (by rw[HO.out.len,List.length_take,HAR.out,Nat.min_eq_left hq]) (HZ5.out.ext hxa)
   rw[zas (by rw[HAR.out];exact hlt)];exact hv5.grow HG6.out (by decide)
  ·obtain rfl:q=zd:=by omega
   go_wp2;go_ret2
   have h2:=HV.out;rw[List.take_of_length_le (by rw[HAR.out];exact Zr)]at h2;exact⟨A1,c1,by rw[HAR.out];rfl,h2.intsV (by rw[HO.out.len,HAR.out]) HO.out.arr (Ext.refl _),by rw[HAR.out];exact HO.out.cap.1,HO.out.cap.2,zsr.toStep⟩
theorem zok(h1:-1099511627776<=z)(h2:z<=1099511627776):Bd 199 z:=by
 unfold Bd;have:z.natAbs<=1099511627776:=by omega
 exact Nat.lt_of_le_of_lt this (by decide)
theorem zeh(hb:∀a∈x,-1099511627776<=a/\a<=1099511627776):QH 199 x:=fun i=>by
 rw[List.getD_eq_getElem?_getD]
 cases h:x[i]? with
 |none=>exact Bd.zero _
 |some a=>have:=hb a (Zm h);exact zok this.1 this.2
theorem zei(hn:n<=16)(hbm:∀i j,Bd k (ent m i j))(hbx:QH k x):QH (2*k+n) (ZR m n x):=fun i=>by
 rw[List.getD_eq_getElem?_getD]
 cases h:m[i]? with
 |none=>simp[ZR,h];exact Bd.zero _
 |some r=>
  have e:((ZR m n x)[i]?).getD 0=zt n fun j=>r.getD j 0*x.getD j 0:=by
   rw[<-List.getD_eq_getElem?_getD];exact zeg h
  rw[e];refine JW (n:=n) (fun j _=>?_) n Zr;have h1:=hbm i j;unfold ent at h1;simp only[List.getD,h,Option.getD_some]at h1;have:=h1.mul (hbx j);rw[show k+k=2*k by omega]at this;exact this
theorem zej(x y:List Int):qP m x y=zt m.length fun i=>x.getD i 0*(ZR m m.length y).getD i 0:=by
 unfold qP;refine qi fun i hi=>?_
 have hr:m[i]? =some m[i]:=Ze hi;rw[zeg hr];congr 1
 refine qi fun j _=>?_
 unfold ent;simp[List.getD,hr]
theorem zol(hM:MatA w0 A m)(hL:LLLed m)(hX:Ints w1 B 2 .i64 x)(hY:Ints w2 C 2 .i64 y)(hxl:x.length=m.length)(hyl:y.length=m.length)(hbx:∀a∈x,-1099511627776<=a/\a<=1099511627776)(hby:∀a∈y,-1099511627776<=a/\a<=1099511627776)[hx0:Ext w0 w][hx1:Ext w1 w][hx2:Ext w2 w]:
  Cq 97 #[.slice A m.length c,.slice B m.length d,.slice C m.length e'] w (zD w (qP m x y)):=by
 have h8:=hL.len8;have h1:=hL.len1;have HOF:=Zh (fun W(e:Ext w0 W)=>(zce (w:=W) (c:=c) hM m.length h1 (by omega) h1 (by omega) hL.all hL.fits).mono fun _ _ h=>h.mat);have HCX:Hid (∀W,Ext w1 W->Cq 155 #[.slice B m.length d] W (zaD W x)):=Zh (fun W e=>by
  have:=zcq (w:=W) (c:=d) hX (by omega) (fun a ha=>by have:=hbx a ha;omega);rwa [hxl]at this)
 have HCY:Hid (∀W,Ext w2 W->Cq 155 #[.slice C m.length e'] W (zaD W y)):=Zh (fun W e=>by
  have:=zcq (w:=W) (c:=e') hY (by omega) (fun a ha=>by have:=hby a ha;omega);rwa [hyl]at this)
 have HAP:Hid (∀(W1 W2 W:World)(A1 A2:Option Addr)(c1 c2:Nat),MatV W1 A1 m->IntsV W2 A2 y->Ext W1 W->Ext W2 W->Cq 168 #[.slice A1 m.length c1,.slice A2 m.length c2] W (zax W (ZR m m.length y))):=Zh (fun W1 W2 W A1 A2 c1 c2 i1 i2 e1 e2=>zhR i1 i2 h1 (by omega) h1 (by omega) hL.all hyl (k:=199) (by omega) hL.bd (zeh hby));have HDT:Hid (∀(W1 W2 W:World)(A1 A2:Option Addr)(c1 c2:Nat),IntsV W1 A1 x->IntsV W2 A2 (ZR m m.length y)->Ext W1 W->Ext W2 W->Cq 156 #[.slice A1 m.length c1,.slice A2 m.length c2] W (zD W (qP m x y))):=Zh (fun W1 W2 W A1 A2 c1 c2 i1 i2 e1 e2=>by
  rw[zej];refine zbm i1 i2 hxl (zbt _ _ _) (by omega) (k:=2*199+m.length) (by omega) (fun i=>(zeh hbx i).mono (by omega)) (zei (by omega) hL.bd (zeh hby)))
 have HAL:Hid ((ZR m m.length y).length=m.length):=Zh (zbt _ _ _);have HXL:=Zh hxl;have HYL:=Zh hyl;clear hbx hby hM hL hX hY hxl hyl;generalize ZR m m.length y=ay at*
 generalize qP m x y=z at*
 obtain⟨n,hn⟩:=Xz m.length;have HN:=Zh hn;unfold jx at HOF;rw[<-hn]at HOF HCX HCY HAP HDT HAL HXL HYL|-
 clear hn h1 h8;go_enter Tryz.func97,Tryz.ntmps97;go_upto_region 2 with (first
  |(go_at_call 32;refine(HOF.out _ Zi).mono ?_;rintro e w3 ⟨A3,c3,rfl,hM3,-,-,hs3⟩;have HM3:=Zh hM3;clear hM3)
  |(go_at_call 155;refine(HCY.out _ Zi).mono ?_;rintro e w4 ⟨A4,c4,rfl,hI4,-,-,hs4⟩;have HI4:=Zh hI4;clear hI4;rw[HYL.out])
  |(go_at_call 168;refine(HAP.out _ _ _ _ _ _ _ HM3.out HI4.out Zi Zi).mono ?_;rintro e w5 ⟨A5,c5,rfl,hI5,-,-,hs5⟩;have HI5:=Zh hI5;clear hI5;rw[HAL.out]))
 go_wp2_with (first
  |(go_at_call 155;refine(HCX.out _ Zi).mono ?_;rintro e w6 ⟨A6,c6,rfl,hI6,-,-,hs6⟩;have HI6:=Zh hI6;clear hI6;rw[HXL.out])
  |(go_at_call 156;refine(HDT.out _ _ _ _ _ _ _ HI6.out HI5.out Zi Zi).mono ?_;rintro e w7 ⟨g7,B7,k7,d7,rfl,hz7,hs7⟩;have hb7:=(Zi:BlkAt w.heap.size #[.bool false,.slice none 0 0] 149 w7).eq;obtain⟨t1,t2,t3,t4,t5⟩:=zQ hb7;have tq:Typed w.heap.size 149 w7:=⟨_,_,hb7⟩;clear hb7))
 exact bodyPost_ret (v:= .agg #[.bool g7,.slice B7 k7 d7]) (by simp[results,Tryz.results97,go_sem,t1,t2]) rfl ⟨_,_,_,_,rfl,hz7.keeps,Step.of _ _⟩
theorem zom{g:Bool}(h:IntV w0 g B k d z)(h0:-4611686018427387904<=z)(h1:z<=4611686018427387904)[hx:Ext w0 w]:
  Cq 96 #[.agg #[.bool g,.slice B k d]] w (zy w (.tuple #[.int .i64 z,.bool true])):=by
 have HI:=Zh (fun W(e:Ext w0 W)=>za4 (w:=W) h (by omega) (by omega));have d1:decide (z< -4611686018427387904)=false:=by simp;omega
 have d2:decide (4611686018427387904<z)=false:=by simp;omega
 clear h;go_enter Tryz.func96,Tryz.ntmps96;go_wp2_with (go_at_call 91;refine(HI.out _ Zi).mono ?_;rintro e w2 ⟨rfl,hs2⟩)
 go_ret2
 exact⟨rfl,Step.of _ _⟩
theorem zon(hM:MatA w0 A m)(hL:LLLed m)(hX:Ints w1 B 2 .i64 x)(hY:Ints w2 C 2 .i64 y)(hxl:x.length=m.length)(hyl:y.length=m.length)(hbx:∀a∈x,-1099511627776<=a/\a<=1099511627776)(hby:∀a∈y,-1099511627776<=a/\a<=1099511627776)(b0:-4611686018427387904<=qP m x y)(b1:qP m x y<=4611686018427387904)[hx0:Ext w0 w][hx1:Ext w1 w][hx2:Ext w2 w]:
  Cq 48 #[.slice A m.length c,.slice B m.length d,.slice C m.length e'] w (zy w (.tuple #[.int .i64 (qP m x y),.bool true])):=by
 have HVX:=Zh (fun W(e0:Ext w0 W)(e1:Ext w1 W)=>zhQ (w:=W) (c:=c) (d:=d) hM hL hX hxl hbx);have HVY:=Zh (fun W(e0:Ext w0 W)(e1:Ext w2 W)=>zhQ (w:=W) (c:=c) (d:=e') hM hL hY hyl hby);have HP:=Zh (fun W(e0:Ext w0 W)(e1:Ext w1 W)(e2:Ext w2 W)=>zol (w:=W) (c:=c) (d:=d) (e':=e') hM hL hX hY hxl hyl hbx hby);clear hM hL hX hY hxl hyl hbx hby;generalize qP m x y=z at*
 generalize m.length=n at*
 have HW:Hid (∀W0 W g B k d,IntV W0 g B k d z->Ext W0 W->Cq 96 #[.agg #[.bool g,.slice B k d]] W (zy W (.tuple #[.int .i64 z,.bool true]))):=Zh (fun W0 W g B k d h e=>zom h b0 b1);go_enter Tryz.func48,Tryz.ntmps48;go_wp2_with fail
 refine(HVX.out _ Zi Zi).mono ?_;rintro e w3 ⟨rfl,hs3⟩;go_wp2_with fail
 refine(HVY.out _ Zi Zi).mono ?_;rintro e w4 ⟨rfl,hs4⟩;go_wp2_with (first
  |(go_at_call 97;refine(HP.out _ Zi Zi Zi).mono ?_;rintro e w5 ⟨g5,B5,k5,d5,rfl,hz5,hs5⟩)
  |(go_at_call 96;refine(HW.out _ _ _ _ _ _ hz5 Zi).mono ?_;rintro e w6 ⟨rfl,hs6⟩))
 go_ret2
 exact⟨rfl,Step.of _ _⟩
theorem zoo(x:List Int)(k:Nat)(a:Int)(h:x[k]? =some a):zI (x.take (k+1))=if zI (x.take k)=0 then a else zI (x.take k):=by
 induction x generalizing k with
 |nil=>simp at h
 |cons y x ih=>
  cases k with
  |zero=>
   simp at h;subst h;simp only[List.take_succ_cons,List.take_zero,zI];by_cases h:y=0
   ·simp[h]
   ·simp[h]
  |succ k=>
   simp only[List.getElem?_cons_succ]at h;have:=ih k h;simp only[List.take_succ_cons,zI];by_cases hy:y=0
   ·simp only[hy,if_true];exact this
   ·simp[hy]
def ZY(a:Int):Int:=if a<0 then-1 else if a=0 then 0 else 1
theorem zop(x:List Int)(h:zI x≠0):x.map (fun c=>ZY (zI x)*c)=zS x:=by
 unfold zS ZY;by_cases h1:zI x<0
 ·rw[if_pos h1,if_pos h1];exact List.map_congr_left fun c _=>by omega
 ·rw[if_neg h1,if_neg h1,if_neg h];simp
def zek(w:World)(x:List Int)(e:Ending)(w':World):Prop:=
 (zI x=0/\e= .returned (.tuple #[.slice none 0 0,.bool false])/\Step w w')∨
 (zI x≠0/\∃B d,e= .returned (.tuple #[.slice B x.length d,.bool true])/\Ints w' B 2 .i64 (zS x)/\x.length<=d/\d<=9223372036854775807/\Step w w')
theorem zel(a:Int):(a<0/\ZY a=-1)∨(a=0/\ZY a=0)∨(0<a/\ZY a=1):=by
 unfold ZY;split
 ·exact .inl ⟨by assumption,rfl⟩
 ·split
  ·exact .inr (.inl ⟨by assumption,rfl⟩)
  ·exact .inr (.inr ⟨by omega,rfl⟩)
theorem zoq(x:List Int)(s:Int)(q:Nat)(a:Int)(h:x[q]? =some a):((x.take (q+1)).map fun a=>Value.int .i64 (s*a))=((x.take q).map fun a=>Value.int .i64 (s*a))++[.int .i64 (s*a)]:=by
 rw[List.take_add_one,h];simp
theorem zor(h:Ints w0 A 2 .i64 x)(h1:x.length<=1000)(hb:∀a∈x,-1099511627776<=a/\a<=1099511627776)[hx:Ext w0 w]:
  Cq 46 #[.slice A x.length c] w (zek w x):=by
 have h0:=h.ext hx;have HI:=Zh (fun W(e:Ext w0 W)=>zhP (w:=W) (c:=c) h (by omega) hb);have HB:=Zh hb;unfold zek;obtain⟨n,hn⟩:=Xz x.length;rw[<-hn]at HI h1|-
 have HL:=Zh hn;clear hb h hn;go_enter Tryz.func46,Tryz.ntmps46;go_wp2_with (go_at_call 93;refine(HI.out _ Zi).mono ?_;rintro e w1 ⟨rfl,rfl⟩)
 go_loop [4,6,15] (fun s _ i=>∃k:Nat,k<=n/\i= .int .i64 k/\s= .int .i64 (ZY (zI (x.take k)))) (fun _ _ i=>n-(intOf i).toNat)
 case atStart=>exact⟨0,by omega,rfl,rfl⟩
 case round=>
  obtain⟨k,hk,rfl,rfl⟩:=hrel;by_cases hlt:k<n
  ·have hlx:k<x.length:=by rw[<-HL.out];exact hlt
   obtain⟨b1,o1,a,rfl,ha,g1,g2⟩:=h0.at_ hlx;have zsS:=zoo x k a ha;have hs:=zel (zI (x.take k));have HN:Hid (ZY (zI (x.take (k+1)))=if ZY (zI (x.take k))=0 then ZY a else ZY (zI (x.take k))):=Zh (by
    rw[zsS];by_cases h:zI (x.take k)=0
    ·rw[if_pos h,if_pos (by omega)]
    ·rw[if_neg h,if_neg (by omega)])
   clear zsS hs ha;generalize ZY (zI (x.take k))=s at*
   rcases zel a with ⟨ha,hsa⟩|⟨ha,hsa⟩|⟨ha,hsa⟩
   ·have e1:(a !=0)=true:=by simp;omega
    have e2:decide (a<0)=true:=by simpa using ha
    by_cases hs:s=0
    ·subst hs;have HN2:Hid (ZY (zI (x.take (k+1)))=-1):=Zh (by rw[HN.out,if_pos rfl,hsa]);clear ha hsa;go_wp2;exact⟨⟨k+1,by omega,by go_num,by rw[HN2.out]⟩,by simp[intOf];omega⟩
    ·have HN2:Hid (ZY (zI (x.take (k+1)))=s):=Zh (by rw[HN.out,if_neg hs]);have e3:(s==0)=false:=by simpa using hs
     clear ha hsa hs;go_wp2;exact⟨⟨k+1,by omega,by go_num,by rw[HN2.out]⟩,by simp[intOf];omega⟩
   ·subst ha;by_cases hs:s=0
    ·subst hs;have HN2:Hid (ZY (zI (x.take (k+1)))=0):=Zh (by rw[HN.out,if_pos rfl,hsa]);clear hsa;go_wp2;exact⟨⟨k+1,by omega,by go_num,by rw[HN2.out]⟩,by simp[intOf];omega⟩
    ·have HN2:Hid (ZY (zI (x.take (k+1)))=s):=Zh (by rw[HN.out,if_neg hs]);have e3:(s==0)=false:=by simpa using hs
     clear hsa hs;go_wp2;exact⟨⟨k+1,by omega,by go_num,by rw[HN2.out]⟩,by simp[intOf];omega⟩
   ·have e1:(a !=0)=true:=by simp;omega
    have e2:decide (a<0)=false:=by simp;omega
    by_cases hs:s=0
    ·subst hs;have HN2:Hid (ZY (zI (x.take (k+1)))=1):=Zh (by rw[HN.out,if_pos rfl,hsa]);clear ha hsa;go_wp2;exact⟨⟨k+1,by omega,by go_num,by rw[HN2.out]⟩,by simp[intOf];omega⟩
    ·have HN2:Hid (ZY (zI (x.take (k+1)))=s):=Zh (by rw[HN.out,if_neg hs]);have e3:(s==0)=false:=by simpa using hs
     clear ha hsa hs;go_wp2;exact⟨⟨k+1,by omega,by go_num,by rw[HN2.out]⟩,by simp[intOf];omega⟩
  ·have htk:x.take k=x:=List.take_of_length_le (by have:=HL.out;omega);rw[htk];have hs:=zel (zI x);clear htk;by_cases hz:zI x=0
   ·have hsz:ZY (zI x)=0:=by omega
    rw[hsz];have HZ:=Zh hz;clear hs hsz hz;go_wp2;go_ret2
    exact .inl ⟨HZ.out,rfl,Step.of _ _⟩
   ·have HC:=Zh (zop x hz);have HZ:=Zh hz;have e3:(ZY (zI x)==0)=false:=by simp;omega
    have hs2:ZY (zI x)=-1∨ZY (zI x)=1:=by omega
    clear hs hz;generalize ZY (zI x)=s at*
    go_wp2;go_loopw [7,9,32] (fun s7 _ i wr=>∃(q:Nat) (A1:Option Addr) (c1:Nat),q<=n/\i= .int .i64 q/\s7= .slice A1 q c1/\Hid (Own wr w.heap.size 2 1 A1 q c1 ((x.take q).map fun a=>Value.int .i64 (s*a)))/\Ext w wr) (fun _ _ i _=>n-(intOf i).toNat)
    case atStart=>exact⟨0,none,0,by omega,rfl,rfl,Zh (Own.nil _ _ _ _),Zi⟩
    case round=>
     obtain⟨q,A1,c1,hq,rfl,rfl,HO,hxr⟩:=hrel;by_cases zsb:q<n
     ·have hlx:q<x.length:=by rw[<-HL.out];exact zsb
      obtain⟨b1,o1,a,rfl,ha,g1,g2⟩:=(h0.ext hxr).at_ hlx;have hab:=HB.out a (Zm ha);have hsa:-1099511627776<=s*a/\s*a<=1099511627776:=by rcases hs2 with rfl|rfl<;>omega
      have HT:=Zh (zoq x s q a ha);obtain⟨p,hp⟩:=Yz (s*a);rw[hp]at hsa HT;have hpw:IntKind.i64.wrap p=p:=Iw;clear ha hs2;go_wp2_with (at_builtin;refine zM _ rfl _ _ 35 rfl w.heap.size 2 (.int .i64 0) 1 8 Tryz.underlying35 Qb rfl (by omega) (by omega) A1 q c1 ((x.take q).map fun a=>Value.int .i64 (s*a)) rfl (HO.out.ext Zi) (some ⟨wr.heap.size,0,none⟩) 1 1 [.int .i64 p] rfl (Arr.new wr 2 #[.int .i64 p]) rfl (JX _) (by omega) (by have:=hxr.size;simp;omega) ?_;intro A6 c6 w6 zr5 hg;have HO6:=Zh zr5;have hx6:Ext w w6:=hg.ext Zi Zr;clear zr5 hg)
      exact⟨⟨q+1,A6,c6,by omega,by go_num,rfl,Zh (by rw[HT.out];exact HO6.out),hx6⟩,by simp[intOf]<;>omega⟩
     ·obtain rfl:q=n:=by omega
      go_wp2;go_ret2
      have h2:=HO.out;rw[List.take_of_length_le (by rw[<-HL.out];exact Zr)]at h2;refine .inr ⟨HZ.out,A1,c1,rfl,?_,h2.cap.1,h2.cap.2,hxr.toStep⟩;have h3:=h2.arr;have e:(x.map fun a=>Value.int .i64 (s*a))=(zS x).map (Value.int .i64):=by rw[<-HC.out,List.map_map];rfl
      rw[e]at h3;exact h3
theorem zhS{X Y:Option Addr}{a:Int}(hX:Ints w0 X 2 .i64 x)(hY:Ints w1 Y 2 .i64 y)(hx1:x.length<=1099511627776)(hy1:y.length<=1099511627776)[hx:Ext w0 w][hy:Ext w1 w]:
  Cq 94 #[.agg #[.int .i64 a,.slice X x.length c],.agg #[.int .i64 b,.slice Y y.length d]] w (zy w (.bool (Zq (a,x) (b,y)))):=by
 have hXw:=hX.ext hx;have hYw:=hY.ext hy;have HC:=Zh (fun W(e:Ext w W)=>zds (w0:=w) (w:=W) (c:=c) (d:=d) hXw hYw hx1 hy1);clear hX hY hXw hYw;rcases Int.lt_trichotomy a b with h|h|h
 ·have HV:Hid (Zq (a,x) (b,y)=true):=Zh (by simp[Zq,Jr,zC,ql h]);have d1:decide (a<b)=true:=by simpa using h
  rw[HV.out];clear h;go_enter Tryz.func94,Tryz.ntmps94;go_wp2_with fail
  go_ret;exact⟨rfl,Step.of _ _⟩
 ·subst h;have HV:Hid (Zq (a,x) (a,y)=decide (zC x y<0)):=Zh (by simp[Zq,Jr,zC,q9]);rw[HV.out];have d1:decide (a<a)=false:=by simp
  have d2:(a==a)=true:=by simp
  go_enter Tryz.func94,Tryz.ntmps94;go_wp2_with (go_at_call 13;refine(HC.out _ Zi).mono ?_;rintro e w3 ⟨rfl,nq,rfl⟩)
  go_ret;exact⟨rfl,Step.of _ _⟩
 ·have HV:Hid (Zq (a,x) (b,y)=false):=Zh (by simp[Zq,Jr,zC,qH h]);have d1:decide (a<b)=false:=by simp;omega
  have d2:(a==b)=false:=by simp;omega
  rw[HV.out];clear h;go_enter Tryz.func94,Tryz.ntmps94;go_wp2_with fail
  go_ret;exact⟨rfl,Step.of _ _⟩
def qj(m:List (List Int))(k:Nat):List (List Int):=tab (fun i j=>E (ent m) k (k+i) (k+j)) (m.length-k) (m.length-k)
theorem zcr(m:List (List Int))(k:Nat):(qj m k).length=m.length-k:=zw _ _ _
theorem zos{b:Nat}(h:MatV w0 A m)(h1:m.length=n)(h4:n<=8)(hn:AllLen m n)(hb:BdM b m)(hb1:1<=b)(hbb:b<=1000000)(hk:k<n)(hp:∀l,l<k->E (ent m) l l l≠0)[hx:Ext w0 w]:
  Cq 151 #[.slice A n c,.int .i64 k] w (RetOwnI w (n-k) (qj m k)):=by
 have h0:=h.ext hx;obtain⟨r,hr⟩:=Xz (n-k);have HSE:Hid (∀(W1 W2 W:World)(A1 A2:Option Addr)(c1 c2 i j:Nat),i<r->j<r->Ints W1 A1 3 .i64 (zZ (zH k (k+i)))->Ints W2 A2 3 .i64 (zZ (zH k (k+j)))->Ext w W->Ext W1 W->Ext W2 W->Cq 152 #[.slice A n c,.slice A1 (k+1) c1,.slice A2 (k+1) c2] W (jx W (zV m (zH k (k+i)) (zH k (k+j))))):=Zh (fun W1 W2 W A1 A2 c1 c2 i j hi hj e1 e2 x0 x1 x2=>by
  have:=zd6 (w:=W) (c:=c) (cR:=c1) (cC:=c2) h0 e1 e2 hn (by rw[qs];omega) (by rw[qs];omega) (by rw[h1];exact zav (by omega) (by omega)) (zav (by omega) (by omega));rw[h1,qs,qs]at this;exact this)
 have HDT:Hid (∀(W1 W:World)(A1:Option Addr)(c1 i j:Nat),i<r->j<r->MatV W1 A1 (zV m (zH k (k+i)) (zH k (k+j)))->Ext W1 W->Cq 116 #[.slice A1 (k+1) c1] W (zD W (E (ent m) k (k+i) (k+j)))):=Zh (fun W1 W A1 c1 i j hi hj hM e1=>by
  rw[<-zan hp (k+i) (k+j)];exact zd8 hM (by omega) hb hb1 hbb)
 have HSL:Hid (∀i j,(zV m (zH k i) (zH k j)).length=k+1):=Zh (fun i j=>by rw[zau,qs]);have HFL:Hid (∀i,(zZ (zH k i)).length=k+1):=Zh (fun i=>by rw[zd5,qs]);have HFI:Hid (∀(W:World)(i:Nat),Cq 153 #[.int .i64 k,.int .i64 i] W (zd3 W (zZ (zH k i)))):=Zh (fun W i=>zho k i (by omega));have HST:Hid (qj m k=tab (fun i j=>E (ent m) k (k+i) (k+j)) r r):=Zh (by unfold qj;rw[h1,hr]);rw[HST.out,<-hr]
 obtain⟨F,hF⟩:∃F:Nat->Nat->Int,F=fun i j=>E (ent m) k (k+i) (k+j):=⟨_,rfl⟩
 rw[<-hF];have hFij:∀i j,E (ent m) k (k+i) (k+j)=F i j:=fun i j=>by rw[hF]
 have zrQ:Hid (∀(W1 W:World)(A1:Option Addr)(c1 i j:Nat),i<r->j<r->MatV W1 A1 (zV m (zH k (k+i)) (zH k (k+j)))->Ext W1 W->Cq 116 #[.slice A1 (k+1) c1] W (zD W (F i j))):=Zh (fun W1 W A1 c1 i j hi hj hM e1=>by
  have:=HDT.out W1 W A1 c1 i j hi hj hM e1;rwa [hFij]at this)
 have hnk:(n:Int)-(k:Int)=(r:Int):=by omega
 have hrw:IntKind.i64.wrap ((n:Int)-k)=(r:Int):=by rw[show (n:Int)-k=(r:Int) by omega];exact Iw
 clear hn hb h1 hp HDT HST hF hFij hr;go_enter Tryz.func151,Tryz.ntmps151;go_wp2_with (go_at_call 118;refine(zbk r r (by omega) (by omega)).mono ?_;rintro e w3 ⟨g,hs,cz,rfl,hO,zsn,zsE,hs2⟩;rw[zw]at zsn|-;have HO:=Zh hO;clear hO)
 have hx3:Ext w w3:=Zi;go_loopw [7,8,18,26] (fun _ _ i _ wr=>∃q:Nat,q<=r/\i= .int .i64 q/\Hid (OwnI wr w.heap.size g r hs (tab (Qh F q 0) r r))/\Ext w wr) (fun _ _ i _ _=>r-(intOf i).toNat)
 case atStart=>exact⟨0,by omega,rfl,Zh (by rw[zd1];exact HO.out),Zi⟩
 case round=>
  obtain⟨i,hi,rfl,HO1,hxr⟩:=hrel;obtain⟨wo,rfl⟩:∃wo:World,wo=wr:=⟨_,rfl⟩;by_cases hlt:i<r
  ·obtain⟨b0,c0,hp0,d1,d2,d3,d4,d5,d6⟩:=HO1.out.hdr (i:=i) (by rw[zw];exact hlt);clear hp0;go_wp2_with fail
   go_loopw [8,26] (fun _ j wr=>∃q:Nat,q<=r/\j= .int .i64 q/\Hid (OwnI wr w.heap.size g r hs (tab (Qh F i q) r r))/\Ext w wr) (fun _ j _=>r-(intOf j).toNat)
   case atStart=>exact⟨0,by omega,rfl,HO1,Zi⟩
   case round=>
    obtain⟨q,hq,rfl,HO2,hxq⟩:=hrel;by_cases zsb:q<r
    ·obtain⟨b1,c1,hp1,f1,f2,f3,f4,f5,f6⟩:=HO2.out.hdr (i:=i) (by rw[zw];exact hlt);have HP1:=Zh hp1;have HX:=Zh (fun W hh=>HO2.out.hdrX hp1 (by rw[zw];exact hlt) W hh);have hlo:=HO2.out.lo_row hp1;have hnw:New b1 w:=⟨hlo⟩;have HE:Hid (∀W,Ext wr W->∃s B k' d,W.cell? ⟨b1,q*2,none⟩=some (.bool s)/\W.cell? ⟨b1,q*2+1,none⟩=some (.slice B k' d)/\W.frozen? ⟨b1,q*2,none⟩=false/\W.frozen? ⟨b1,q*2+1,none⟩=false/\b1<W.heap.size):=Zh (fun W hh=>by
      obtain⟨s,B,k',d,a1,a2,-,a4,a5⟩:=(HO2.out.ext hh).entry (i:=i) HP1.out (by rw[zw];exact hlt) zsb;exact⟨s,B,k',d,a1,a2,a4,a5,Nat.lt_of_lt_of_le f5 hh.size⟩)
     have hki:IntKind.i64.wrap ((k:Int)+(i:Int))=((k+i:Nat):Int):=by rw[show (k:Int)+(i:Int)=((k+i:Nat):Int) by simp];exact Iw
     have hkq:IntKind.i64.wrap ((k:Int)+(q:Int))=((k+q:Nat):Int):=by rw[show (k:Int)+(q:Int)=((k+q:Nat):Int) by simp];exact Iw
     have HF1:=Zh (fun W=>HFI.out W (k+i));have HF2:=Zh (fun W=>HFI.out W (k+q));clear hp1;go_wp2_with fail
     go_region_held3 (fun w'=>w'.cell? ⟨g,i,none⟩=some (.slice (some ⟨b1,0,none⟩) r c1))
      (first|exact(HX.out _ Zi).1|exact(HX.out _ Zi).2 _ _ _ _)
      (first
       |(have hh:=hI6;clear hh;go_at_call 153;refine(HF2.out _).mono ?_;rintro e w7 ⟨A7,c7,rfl,hI7,-,-,hs7⟩;rw[HFL.out])
       |(go_at_call 153;refine(HF1.out _).mono ?_;rintro e w6 ⟨A6,c6,rfl,hI6,-,-,hs6⟩;rw[HFL.out])
       |(go_at_call 152;refine(HSE.out _ _ _ _ _ _ _ i q hlt zsb hI6 hI7 Zi Zi Zi).mono ?_;rintro e w8 ⟨A8,c8,rfl,hM8,-,-,hs8⟩;rw[HSL.out])
       |(go_at_call 116;refine(zrQ.out _ _ _ _ i q hlt zsb hM8 Zi).mono ?_;rintro e w5 ⟨g5,B5,k5,n5,rfl,hz5,hs5⟩;obtain⟨s6,B6,k6,n6,u1,u2,u3,u4,u5⟩:=HE.out w5 Zi))
     go_wp2_with fail
     refine⟨⟨q+1,by omega,by go_num,Zh ?_,?_⟩,by simp[intOf]<;>omega⟩
     ·have hO5:=(HO2.out.ext (Zi:Ext wr w5)).set HP1.out (by rw[zw];exact hlt) zsb hz5;rw[zdY hlt zsb]at hO5;exact hO5
     ·exact((Zi:Ext w w5).setCell (p:=⟨b1,q*2,none⟩) hlo _).setCell (p:=⟨b1,q*2+1,none⟩) hlo _
    ·obtain rfl:q=r:=by omega
     go_wp2_with fail
     exact⟨⟨i+1,by omega,by go_num,Zh (by rw[<-zdZ];exact HO2.out),hxq⟩,by simp[intOf]<;>omega⟩
  ·obtain rfl:i=r:=by omega
   go_wp2_with fail
   go_ret;have h:=HO1.out;rw[zd0]at h;exact⟨g,hs,cz,by rw[zw];rfl,h,by rw[zw];exact zsn,zsE,hxr.toStep⟩
def zcs(w:World)(m:List (List Int))(e:Ending)(w':World):Prop:=∃B d,e= .returned (.tuple #[.slice B m.length d,.bool true])/\StV w' B ((List.range m.length).map (qj m))/\m.length<=d/\d<=9223372036854775807/\Step w w'
def StHd(w:World)(m:List (List Int))(q:Nat)(vs:List Value):Prop:=vs.length=q/\∀i,i<q->∃B c,vs[i]? =some (.slice B (m.length-i) c)/\MatV w B (qj m i)/\m.length-i<=c/\c<=9223372036854775807
theorem StHd.map{w':World}(h:StHd w m q vs)(hk:∀{B:Option Addr}{M:List (List Int)},MatV w B M->MatV w' B M):StHd w' m q vs:=⟨h.1,fun i hi=>by
 obtain⟨B,c,a1,a2,a3⟩:=h.2 i hi;exact⟨B,c,a1,hk a2,a3⟩⟩
theorem StHd.snoc(h:StHd w m q vs)(hM:MatV w B (qj m q))(h1:m.length-q<=c)(h2:c<=9223372036854775807):StHd w m (q+1) (vs++[.slice B (m.length-q) c]):=by
 refine⟨by simp[h.1],fun i hi=>?_⟩;rcases Zl i q with hlt|hge
 ·obtain⟨B',c',a1,a2,a3⟩:=h.2 i hlt;exact⟨B',c',by rw[List.getElem?_append_left (by rw[h.1];exact hlt)];exact a1,a2,a3⟩
 ·obtain rfl:i=q:=by omega
  exact⟨B,c,by rw[List.getElem?_append_right (by rw[h.1];exact Zr),h.1,Nat.sub_self];rfl,hM,h1,h2⟩
theorem StHd.stV(h:StHd w m m.length vs)(ha:Arr w A 79 vs):StV w A ((List.range m.length).map (qj m)):=by
 refine⟨vs,by simp[h.1],ha,fun i M hM=>?_⟩;rw[List.getElem?_map]at hM
 cases hr:(List.range m.length)[i]? with
 |none=>rw[hr]at hM;cases hM
 |some j=>
  have hij:i=j/\i<m.length:=by
   obtain⟨h1,h2⟩:=Zg.1 hr;simp at h1 h2;exact⟨h2,h1⟩
  obtain⟨rfl,hi⟩:=hij;rw[hr]at hM;injection hM with hM
  subst hM;obtain⟨B,c,a1,a2,a3⟩:=h.2 i hi;exact⟨B,c,by rw[zcr];exact a1,a2,by rw[zcr];exact a3.1,a3.2⟩
set_option maxRecDepth 20000 in
theorem zot{b:Nat}(h:MatV w0 A m)(h1:m.length=n)(h3:1<=n)(h4:n<=8)(hn:AllLen m n)(hb:BdM b m)(hb1:1<=b)(hbb:b<=1000000)(hp:Pos (zh (ent m)) n)[hx:Ext w0 w]:
  Cq 86 #[.slice A n c] w (zcs w m):=by
 have h0:=h.ext hx;have HLE:=Zh (fun W(e1:Ext w W)=>zbo (w:=W) (c:=c) h0 h1 h3 h4 hn hb hb1 hbb);have HLL:Hid ((zu m).length=n):=Zh (by rw[QI];exact h1);have HPX:Hid (∀i,i<n->0<(zu m).getD i 0):=Zh (fun i hi=>by
  rw[zdE (by rw[h1];exact hp) (by rw[h1];exact hi)];exact qN hp hi)
 have HBX:Hid (QH (256*(b+1)) (zu m)):=Zh (zay (by omega) hb1 hb);have HSG:Hid (∀(W:World)(k:Nat),k<n->Ext w W->Cq 151 #[.slice A n c,.int .i64 k] W (RetOwnI W (n-k) (qj m k))):=Zh (fun W k hk e=>zos h0 h1 h4 hn hb hb1 hbb hk (fun l hl=>by have:=qN hp (show l<n by omega);omega));have HSL:Hid (∀k,(qj m k).length=n-k):=Zh (fun k=>by rw[zcr,h1]);unfold zcs;have HM1:=Zh h1;rw[h1];have hbk:b<=1000000:=hbb
 have hw:IntKind.i64.wrap ((n:Int)-1)=((n-1:Nat):Int):=by rw[show (n:Int)-1=((n-1:Nat):Int) by omega];exact Iw
 clear hn hb hp h1 h;generalize zu m=ds at*
 go_enter Tryz.func86,Tryz.ntmps86;go_wp2_with (go_at_call 87;refine(HLE.out _ Zi).mono ?_;rintro e w1 ⟨BD,dD,rfl,hI1,hd1,hd2,hs1⟩;rw[HLL.out]at hd1|-;have HI:=Zh hI1;clear hI1)
 have zs4:Ext w w1:=Zi;go_loopw [7,23] (fun _ i wr=>∃q:Nat,q<=n-1/\i= .int .i64 q/\Ext w1 wr) (fun _ i _=>n-1-(intOf i).toNat)
 case atStart=>exact⟨0,by omega,rfl,Zi⟩
 case round=>
  obtain⟨q,hq,rfl,hxr⟩:=hrel;have zsr:Ext w wr:=zs4.trans hxr;by_cases hlt:q<n-1
  ·obtain⟨bb,ob,g,B,k,d,rfl,y1,y2,hz,hb2⟩:=(HI.out.ext hxr).atD (i:=q) (by rw[HLL.out];omega);have zsc:=HPX.out q (by omega);have zr7:=hz.bd (HBX.out q) (by omega);generalize ds.getD q 0=z at*
   have hcz:(zk z 0==0)=false:=by rw[qH zsc];rfl
   have HS:Hid (∀W,Ext wr W->Cq 150 #[.agg #[.bool g,.slice B k d]] W (zy W (.int .i64 (zk z 0)))):=Zh (fun W e=>QT hz (by omega));clear hz zsc;generalize zk z 0=cz at*
   go_wp2_with (go_at_call 150;refine(HS.out _ Zi).mono ?_;rintro e w2 ⟨rfl,hs2⟩)
   exact⟨⟨q+1,by omega,by go_num,Zi⟩,by simp[intOf]<;>omega⟩
  ·obtain rfl:q=n-1:=by omega
   clear hlt hq;go_wp2_with fail
   go_loopw [8,9,33] (fun s8 _ i wr'=>∃(q:Nat) (A1:Option Addr) (c1:Nat) (vs:List Value),q<=n/\i= .int .i64 q/\s8= .slice A1 q c1/\Hid (Own wr' w.heap.size 79 1 A1 q c1 vs)/\Hid (StHd wr' m q vs)/\Ext w wr') (fun _ _ i _=>n-(intOf i).toNat)
   case atStart=>exact⟨0,none,0,[],by omega,rfl,rfl,Zh (Own.nil _ _ _ _),Zh ⟨rfl,fun i hi=>absurd hi (by omega)⟩,zsr⟩
   case round=>
    obtain⟨k,A1,c1,vs,hk,rfl,rfl,HO,HV,hxk⟩:=hrel;by_cases hlt:k<n
    ·have HS:Hid (∀W,Ext w W->Cq 151 #[.slice A n c,.int .i64 k] W (jx W (qj m k))):=Zh (fun W e=>(HSG.out W k hlt e).mono fun _ _ h=>h.mat);have hkl:=HSL.out k;go_wp2_with fail
     refine(HS.out _ Zi).mono ?_;rintro e w5 ⟨B5,c5,rfl,hM5,zt9,zuC,hs5⟩;rw[hkl]at zt9|-
     have hx5:Ext wr w5:=Zi;have HM5:=Zh hM5;clear hM5 hkl;go_wp2_with (at_builtin;refine zM _ rfl _ _ 93 rfl w.heap.size 79 (.slice none 0 0) 1 24 Tryz.underlying93 zc2 rfl (by omega) (by omega) A1 k c1 vs rfl (HO.out.ext Zi) (some ⟨w5.heap.size,0,none⟩) 1 1 [.slice B5 (n-k) c5] rfl (Arr.new w5 79 #[.slice B5 (n-k) c5]) rfl (zhp _ _ _) (by omega) (by have:=(hxk.trans hx5).size;simp;omega) ?_;intro A6 c6 w6 zr5 hg;have HO6:=Zh zr5;have HG6:=Zh hg;have hx6:Ext w w6:=hg.ext Zi Zr;clear zr5 hg)
     refine⟨⟨k+1,A6,c6,vs++[.slice B5 (n-k) c5],by omega,by go_num,rfl,HO6,Zh ?_,hx6⟩,by simp[intOf]<;>omega⟩;have hxa:Ext w5 (w5.alloc (.cells #[.slice B5 (n-k) c5] 79)):=Zi;have h6:=StHd.snoc (m:=m) (HV.out.map fun h=>(h.ext hx5).ext hxa) (HM5.out.ext hxa) (c:=c5) (by rw[HM1.out];exact zt9) zuC;rw[HM1.out]at h6;exact h6.map fun h=>h.grow HG6.out (by decide) (by decide) (by decide)
    ·obtain rfl:k=n:=by omega
     go_wp2_with fail
     go_ret2
     have hst:=HV.out;rw[<-HM1.out]at hst;have ztv:=hst.stV HO.out.arr;rw[HM1.out]at ztv;exact⟨A1,c1,rfl,ztv,HO.out.cap.1,HO.out.cap.2,hxk.toStep⟩
end
section
open La
def jp(x:List Int)(s:Int)(y:List Int):List Int:=(List.range x.length).map fun i=>x.getD i 0+s*y.getD i 0
theorem zem(x:List Int)(s:Int)(y:List Int):(jp x s y).length=x.length:=by simp[jp]
theorem zhT{s:Int}(hi:i<x.length):(jp x s y).getD i 0=x.getD i 0+s*y.getD i 0:=by
 simp[jp,List.getD,hi]
def zct(m:List (List Int))(x y:List Int):Int:=zt m.length fun i=>x.getD i 0*(zt m.length fun j=>ent m i j*y.getD j 0)+y.getD i 0*(zt m.length fun j=>ent m i j*x.getD j 0)
theorem zhU(hn:AllLen m m.length)(x y:List Int)(s:Int)(hx:x.length=m.length)(hy:y.length=m.length):zg m (jp x s y)=zg m x+s*zct m x y+s*s*zg m y:=by
 rw[<-zbs hn x hx,<-zbs hn y hy,<-zbs hn (jp x s y) (by rw[zem,hx])];unfold qP zct;have h1:(zt m.length fun i=>(jp x s y).getD i 0*zt m.length fun j=>ent m i j*(jp x s y).getD j 0)=
   zt m.length fun i=>(x.getD i 0*(zt m.length fun j=>ent m i j*x.getD j 0))+(s*(x.getD i 0*(zt m.length fun j=>ent m i j*y.getD j 0)+y.getD i 0*(zt m.length fun j=>ent m i j*x.getD j 0))+s*s*(y.getD i 0*(zt m.length fun j=>ent m i j*y.getD j 0))):=by
  refine qi fun i hi=>?_
  have h2:(zt m.length fun j=>ent m i j*(jp x s y).getD j 0)=(zt m.length fun j=>ent m i j*x.getD j 0)+s*(zt m.length fun j=>ent m i j*y.getD j 0):=by
   rw[<-zcp,<-zbr];refine qi fun j hj=>?_
   rw[zhT (by omega)];grind
  rw[h2,zhT (by omega)];generalize (zt m.length fun j=>ent m i j*x.getD j 0)=X;generalize (zt m.length fun j=>ent m i j*y.getD j 0)=Y;grind
 rw[h1,zbr,zbr,zcp,zcp];omega
end
end Go.Proofs.YtpcgfpmiphiacaaGreat

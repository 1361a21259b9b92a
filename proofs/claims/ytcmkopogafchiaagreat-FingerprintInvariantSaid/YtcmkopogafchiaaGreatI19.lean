import Derived.Test.YtcmkopogafchiaaGreatI18
set_option maxHeartbeats 8000000
set_option linter.unusedVariables false
set_option linter.unusedSimpArgs false
namespace Go.Proofs.YtcmkopogafchiaaGreat
open List (mem_range pairwise_cons mem_cons map_congr_left getElem_mem ext_getElem)
variable {b z:Int} {ys:List (Int×Int)} {m:List (List Int)} {cs t x y:List Int} {vs:List Value} {c d i k n q:Nat} {A B:Option Addr} {w w0 w1:World}
section
open La
def zJ(m:List (List Int))(b:Int)(k:Nat)(t:List Int):Int:=zW (zo m m.length) (zt m m.length) k (left (ent m) b (k+1) t) t
def Zb(m:List (List Int))(b:Int)(k:Nat)(t:List Int):Int:=qa (zo m m.length) (zt m m.length) k (left (ent m) b (k+1) t) t
def qc(m:List (List Int))(b:Int)(k:Nat)(t:List Int):Nat:=(Zb m b k t-zJ m b k t+1).toNat
theorem zhR(h:0<zG x):zH x=x:=by unfold zH;rw[if_neg (by omega)]
theorem zoE(n:Nat)(F:Nat->Int):zj (n+1) F=F 0+zj n fun i=>F (i+1):=by
 induction n with
 |zero=>simp[zj]
 |succ n ih=>rw[ZD,ih,ZD];omega
theorem J9(g:Nat->Int)(t:List Int):∀k,ZV g k t=zj t.length fun i=>g (k+i)*t.getD i 0:=by
 induction t with
 |nil=>intro k;simp[ZV,zj]
 |cons c t ih=>
  intro k;rw[ZV,ih (k+1),List.length_cons,zoE];congr 1
  refine zX fun i _=>?_
  rw[show k+1+i=k+(i+1) by omega];rfl
theorem zcx(a:Int)(n:Nat)(F:Nat->Int):(zj n fun i=>a*F i)=a*zj n F:=by
 induction n with
 |zero=>simp[zj]
 |succ n ih=>rw[ZD,ih,ZD,Int.mul_add]
theorem zbw(n:Nat)(F G:Nat->Int):(zj n fun i=>F i+G i)=zj n F+zj n G:=by
 induction n with
 |zero=>simp[zj]
 |succ n ih=>rw[ZD,ih,ZD,ZD];omega
def QF(m:List (List Int))(x y:List Int):Int:=zj m.length fun i=>x.getD i 0*zj m.length fun j=>ent m i j*y.getD j 0
theorem zaa(hn:AllLen m m.length)(x:List Int)(hx:x.length=m.length):QF m x x=zi m x:=by
 rw[zbi hn x hx];unfold QF qE jO;rw[J9,hx];refine zX fun i _=>?_
 simp only[Nat.zero_add];rw[J9,hx,Int.mul_comm];simp only[Nat.zero_add];rfl
theorem zoF(hr:RedOK m)(hk:k<m.length)(za:Int)(t:List Int):
  lE (ent m) k (0::t)*lE (ent m) k (0::t)-zx (ent m) (k+1)*(qE (ent m) k (0::t)-za*zx (ent m) k)=zx (ent m) k*left (ent m) za (k+1) t:=by
 have hs:Sym (zg (ent m)):=QZ (qu hr.small) (fun i j hi hj=>((of_decide_eq_true hr.small).2.2.2 i hi j hj).1);have:=zdQ hs (hr.pos.le (by omega:k+1<=m.length)) 0 t;unfold left;grind
def Zn(m:List (List Int))(b:Int):Nat->List Int->List (List Int)
 |0,t=>(List.range (qc m b 0 t)).map fun(j:Nat)=>(zJ m b 0 t+(j:Int))::t
 |k+1,t=>(List.range (qc m b (k+1) t)).flatMap fun(j:Nat)=>Zn m b k ((zJ m b (k+1) t+(j:Int))::t)
theorem zoG(hr:RedOK m)(x:List Int)(k:Nat):∀t:List Int,k<m.length->t.length=m.length-1-k->0<=left (ent m) b (k+1) t->
  (x∈Zn m b k t↔∃p:List Int,p.length=k+1/\x=p++t/\0<=left (ent m) b 0 x):=by
 induction k with
 |zero=>
  intro t hk ht h0;have hin:∀c,(zJ m b 0 t<=c/\c<=Zb m b 0 t)↔0<=left (ent m) b 0 (c::t):=fun c=>j9 hr hk t ht h0 c
  rw[Zn];simp only[List.mem_map,mem_range];constructor
  ·rintro⟨j,hj,rfl⟩;unfold qc at hj;exact⟨[zJ m b 0 t+(j:Int)],rfl,rfl,(hin _).1 ⟨by omega,by omega⟩⟩
  ·rintro⟨p,hp,rfl,h2⟩;obtain⟨c,rfl⟩:∃c,p=[c]:=List.length_eq_one_iff.1 hp;have h3:=(hin c).2 h2;refine⟨(c-zJ m b 0 t).toNat,by unfold qc;omega,?_⟩;rw[show zJ m b 0 t+(((c-zJ m b 0 t).toNat:Nat):Int)=c by omega];rfl
 |succ k ih=>
  intro t hk ht h0;have hin:∀c,(zJ m b (k+1) t<=c/\c<=Zb m b (k+1) t)↔0<=left (ent m) b (k+1) (c::t):=fun c=>j9 hr hk t ht h0 c
  rw[Zn];simp only[List.mem_flatMap,mem_range];constructor
  ·rintro⟨j,hj,hx⟩;have hk0:0<=left (ent m) b (k+1) ((zJ m b (k+1) t+(j:Int))::t):=Ja hr t hk ht h0 (j:=j) hj;obtain⟨p,hp,rfl,h2⟩:=(ih _ (by omega) (by simp[ht];omega) hk0).1 hx;exact⟨p++[zJ m b (k+1) t+(j:Int)],by simp[hp],by simp,h2⟩
  ·rintro⟨p,hp,rfl,h2⟩;obtain⟨q,c,rfl,hq⟩:=zcd hp;have hs:=zgU hr b q 0 (c::t) (by simp[ht];omega) (by simpa using h2);rw[hq,Nat.zero_add]at hs;have hc:=(hin c).2 hs;refine⟨(c-zJ m b (k+1) t).toNat,by unfold qc;omega,?_⟩;have e:zJ m b (k+1) t+(((c-zJ m b (k+1) t).toNat:Nat):Int)=c:=by omega
   rw[e];exact(ih _ (by omega) (by simp[ht];omega) hs).2 ⟨q,hq,by simp,h2⟩
theorem zhS(hr:RedOK m)(hb:0<=b)(x:List Int):x∈Zn m b (m.length-1) []↔x.length=m.length/\zi m x<=b:=by
 have hl:=Qo hr.small;rw[zoG hr x (m.length-1) [] (by omega) (by simp) (J3 hr hb)];constructor
 ·rintro⟨p,hp,rfl,h2⟩;have hpl:(p++[]).length=m.length:=by simp[hp];omega
  rw[jP (qu hr.small) b _ hpl]at h2;exact⟨hpl,by omega⟩
 ·rintro⟨h1,h3⟩;refine⟨x,by omega,by simp,?_⟩;rw[jP (qu hr.small) b _ h1];omega
def JC(p:Int×List Int):List Int:=p.1::p.2
def Zo(p q:Int×List Int):Bool:=decide (zy (JC p) (JC q)<0)
theorem zoH{p q:Int×List Int}(h:JC p=JC q):p=q:=by
 obtain⟨a,x⟩:=p;obtain⟨b,y⟩:=q;simpa[JC] using h
theorem zoI{p q r:Int×List Int}(h1:Zo p q=true)(h2:Zo q r=true):Zo p r=true:=by
 unfold Zo at*
 rw[decide_eq_true_eq] at*
 exact zb8 _ _ _ h1 h2
theorem zoJ{p q:Int×List Int}(h1:Zo p q=false)(h2:Zo q p=false):p=q:=by
 unfold Zo at*
 rw[decide_eq_false_iff_not] at*
 rw[Jt]at h2;exact zoH (zav _ _ (by omega))
def qd:List (Int×List Int)->Int×List Int->Nat
 |[],_=>0
 |y::l,x=>if Zo y x then qd l x+1 else 0
theorem zes:∀(l:List (Int×List Int))(x:Int×List Int)(k:Nat),(∀j y,j<k->l[j]? =some y->Zo y x=true)->k<=l.length->(∀y,l[k]? =some y->Zo y x=false)->qd l x=k
 |[],x,k,_,hk,_=>by simp at hk;simp[qd,hk]
 |y::l,x,0,_,_,h=>by have:=h y rfl;simp[qd,this]
 |y::l,x,k+1,h1,hk,h2=>by
  have e:=h1 0 y (by omega) rfl;rw[qd,if_pos e,zes l x k (fun j z hj hz=>h1 (j+1) z (by omega) (by simpa using hz)) (by simpa using hk) (fun z hz=>h2 z (by simpa using hz))]
def Zj(l:List (Int×List Int))(x:Int×List Int):List (Int×List Int):=
 match l[qd l x]? with
 |some y=>if Zo x y then l.take (qd l x)++x::l.drop (qd l x) else l
 |none=>l++[x]
theorem zhT:∀(l:List (Int×List Int))(x:Int×List Int),l.Pairwise (fun p q=>Zo p q=true)->(Zj l x).Pairwise (fun p q=>Zo p q=true)/\∀y,y∈Zj l x↔y∈l∨y=x
 |[],x,_=>by simp[Zj,qd]
 |y::l,x,h=>by
  by_cases hyx:Zo y x=true
  ·have hp:(y::l)[qd (y::l) x]? =l[qd l x]? :=by simp[qd,hyx]
   have e:Zj (y::l) x=y::Zj l x:=by
    unfold Zj;rw[hp];simp only[qd,if_pos hyx];split<;>simp
    split<;>simp
   rw[pairwise_cons]at h;obtain⟨h1,h2⟩:=zhT l x h.2;rw[e,pairwise_cons];refine⟨⟨fun z hz=>?_,h1⟩,fun z=>?_⟩
   ·rcases(h2 z).1 hz with hz|rfl
    ·exact h.1 z hz
    ·exact hyx
   ·simp only[mem_cons,h2];constructor
    ·rintro(h|h|h)
     ·exact .inl (.inl h)
     ·exact .inl (.inr h)
     ·exact .inr h
    ·rintro((h|h)|h)
     ·exact .inl h
     ·exact .inr (.inl h)
     ·exact .inr (.inr h)
  ·have e0:qd (y::l) x=0:=by simp[qd,hyx]
   have e:Zj (y::l) x=if Zo x y then x::y::l else y::l:=by
    unfold Zj;rw[e0];simp
   rw[e];by_cases hxy:Zo x y=true
   ·rw[if_pos hxy];refine⟨pairwise_cons.2 ⟨fun z hz=>?_,h⟩,fun z=>?_⟩
    ·rcases mem_cons.1 hz with rfl|hz
     ·exact hxy
     ·exact zoI hxy ((pairwise_cons.1 h).1 z hz)
    ·simp only[mem_cons];constructor
     ·rintro(h|h)
      ·exact .inr h
      ·exact .inl h
     ·rintro(h|h)
      ·exact .inr h
      ·exact .inl h
   ·rw[if_neg hxy];have hxe:=zoJ (p:=y) (q:=x) (by simpa using hyx) (by simpa using hxy);subst hxe;refine⟨h,fun z=>?_⟩;simp only[mem_cons];constructor
    ·exact fun h=> .inl h
    ·rintro(h|h)
     ·exact h
     ·exact .inl h
def Zp(m:List (List Int))(xs:List (List Int)):List (Int×List Int):=
 xs.foldl (fun l x=>if 0<zG x then Zj l (zi m x,x) else l) []
theorem zhU(m:List (List Int))(xs:List (List Int)):∀l:List (Int×List Int),l.Pairwise (fun p q=>Zo p q=true)->
  (xs.foldl (fun l x=>if 0<zG x then Zj l (zi m x,x) else l) l).Pairwise (fun p q=>Zo p q=true)/\∀y,y∈xs.foldl (fun l x=>if 0<zG x then Zj l (zi m x,x) else l) l↔y∈l∨∃x∈xs,0<zG x/\y=(zi m x,x):=by
 induction xs with
 |nil=>intro l h;exact⟨h,fun y=>by simp⟩
 |cons x xs ih=>
  intro l h;simp only[List.foldl_cons];by_cases hx:0<zG x
  ·rw[if_pos hx];obtain⟨h1,h2⟩:=zhT l (zi m x,x) h;obtain⟨h3,h4⟩:=ih _ h1;refine⟨h3,fun y=>?_⟩;rw[h4,h2];simp only[mem_cons];constructor
   ·rintro((h|h)|⟨z,hz,a,b⟩)
    ·exact .inl h
    ·exact .inr ⟨x,.inl rfl,hx,h⟩
    ·exact .inr ⟨z,.inr hz,a,b⟩
   ·rintro(h|⟨z,(rfl|hz),a,b⟩)
    ·exact .inl (.inl h)
    ·exact .inl (.inr b)
    ·exact .inr ⟨z,hz,a,b⟩
  ·rw[if_neg hx];obtain⟨h3,h4⟩:=ih _ h;refine⟨h3,fun y=>?_⟩;rw[h4];simp only[mem_cons];constructor
   ·rintro(h|⟨z,hz,a,b⟩)
    ·exact .inl h
    ·exact .inr ⟨z,.inr hz,a,b⟩
   ·rintro(h|⟨z,(rfl|hz),a,b⟩)
    ·exact .inl h
    ·exact absurd a hx
    ·exact .inr ⟨z,hz,a,b⟩
theorem zhV(hr:RedOK m)(hb:0<=b):VecList m b false ((Zp m (Zn m b (m.length-1) [])).map Prod.snd)/\Zp m (Zn m b (m.length-1) [])=((Zp m (Zn m b (m.length-1) [])).map Prod.snd).map fun x=>(zi m x,x):=by
 obtain⟨h1,h2⟩:=zhU m (Zn m b (m.length-1) []) [] List.Pairwise.nil;have hm:∀y,y∈Zp m (Zn m b (m.length-1) [])↔∃x,(x.length=m.length/\0<zG x/\zi m x<=b)/\y=(zi m x,x):=fun y=>by
  unfold Zp;rw[h2];simp only[zhS hr hb];constructor
  ·rintro(h|⟨x,⟨a1,a2⟩,a3,a4⟩)
   ·simp at h
   ·exact⟨x,⟨a1,a3,a2⟩,a4⟩
  ·rintro⟨x,⟨a1,a3,a2⟩,a4⟩;exact .inr ⟨x,⟨a1,a2⟩,a3,a4⟩
 have he:∀y∈Zp m (Zn m b (m.length-1) []),y=(zi m y.2,y.2):=fun y hy=>by
  obtain⟨x,-,rfl⟩:=(hm y).1 hy;rfl
 refine⟨⟨?_,fun x=>?_⟩,?_⟩
 ·rw[List.pairwise_map];refine List.Pairwise.imp_of_mem ?_ h1;intro p q hp hq h;unfold Zo at h;rw[decide_eq_true_eq,he p hp,he q hq]at h;rw[zdv];exact h
 ·rw[List.mem_map];constructor
  ·rintro⟨y,hy,rfl⟩;obtain⟨x,⟨a1,a2,a3⟩,rfl⟩:=(hm y).1 hy;exact⟨a1,a2,a3,fun h=>by cases h⟩
  ·rintro⟨a1,a2,a3,-⟩;exact⟨(zi m x,x),(hm _).2 ⟨x,⟨a1,a2,a3⟩,rfl⟩,rfl⟩
 ·rw[List.map_map];conv=>lhs;rw[<-List.map_id (Zp m (Zn m b (m.length-1) []))]
  exact map_congr_left fun y hy=>he y hy
end
section
open Go.RowKit
open La
theorem zoK(h:Ints w0 A 2 .i64 x)(h1:x.length<=1099511627776)(hb:∀a∈x,-1099511627776<=a/\a<=1099511627776)[hx:Ext w0 w]:
  Cq 77 #[.slice A x.length c] w (Zu w (.bool true)):=by
 have h0:=h.ext hx;have HB:=Zh hb;clear hb h;go_enter Tryz.func77,Tryz.ntmps77;go_wp2;go_loop [4,7] (fun _ i=>∃k:Nat,k<=x.length/\i= .int .i64 k) (fun _ i=>x.length-(intOf i).toNat)
 case atStart=>exact⟨0,by omega,rfl⟩
 case round=>
  obtain⟨k,hk,rfl⟩:=hrel;by_cases hlt:k<x.length
  ·obtain⟨b1,o1,a,rfl,ha,g1,g2⟩:=h0.at_ hlt;have hab:=HB.out a (Zm ha);have d1:decide (a< -1099511627776)=false:=by simp;omega
   have d2:decide (1099511627776<a)=false:=by simp;omega
   clear ha;go_wp2;exact⟨⟨k+1,by omega,by go_num⟩,by simp[intOf];omega⟩
  ·go_wp2;go_ret;exact⟨rfl,rfl⟩
theorem LLLed.fits(h:LLLed m):Z9 m:=(Qi h.red).form.fits
theorem zoL(h1:-262144<=z)(h2:z<=262144):Bd 199 z:=by
 unfold Bd;have:z.natAbs<=262144:=by omega
 exact Nat.lt_of_le_of_lt this (by decide)
theorem LLLed.bd(h:LLLed m):BdM 199 m:=fun i j=>by
 by_cases hi:i<m.length
 ·by_cases hj:j<m.length
  ·have hr:m[i]? =some m[i]:=Ze hi;have hl:m[i].length=m.length:=h.all _ (getElem_mem hi);have he:ent m i j=m[i][j]'(by omega):=JR hr (Ze (by omega));have:=(zdX h.red).ent m[i] (getElem_mem hi) (m[i][j]'(by omega)) (getElem_mem _);rw[he];exact zoL this.1 this.2
  ·rw[qI h.all (.inr (by omega))];exact Bd.zero _
 ·rw[qI h.all (.inl (by omega))];exact Bd.zero _
def zcy(w:World)(zs:List Int)(e:Ending)(w':World):Prop:=∃B d,e= .returned (.slice B zs.length d)/\IntsV w' B zs/\zs.length<=d/\d<=9223372036854775807/\Step w w'
theorem zhW(h:Ints w0 A 2 .i64 x)(h1:x.length<=1000)(hb:∀a∈x,-9223372036854775808<=a/\a<=9223372036854775807)[hx:Ext w0 w]:
  Cq 82 #[.slice A x.length c] w (zcy w x):=by
 have h0:=h.ext hx;have HB:=Zh hb;obtain⟨n,hn⟩:=Xz x.length;unfold zcy;rw[<-hn]at h1|-
 have HL:=Zh hn;clear hb h hn;go_enter Tryz.func82,Tryz.ntmps82;go_wp2;go_loopw [3,5,8] (fun s3 _ i wr=>∃(q:Nat) (A1:Option Addr) (c1:Nat) (vs:List Value),q<=n/\i= .int .i64 q/\s3= .slice A1 q c1/\Hid (Own wr w.heap.size 99 2 A1 q c1 vs)/\Hid (VsOf wr vs (x.take q))/\Ext w wr) (fun _ _ i _=>n-(intOf i).toNat)
 case atStart=>exact⟨0,none,0,[],by omega,rfl,rfl,Zh (Own.nil _ _ _ _),Zh (fun i z hz=>by simp at hz),Zi⟩
 case round=>
  obtain⟨q,A1,c1,vs,hq,rfl,rfl,HO,HV,hxr⟩:=hrel;by_cases hlt:q<n
  ·have hlx:q<x.length:=by rw[<-HL.out];exact hlt
   obtain⟨b1,o1,a,rfl,ha,g1,g2⟩:=(h0.ext hxr).at_ hlx;have hab:=HB.out a (Zm ha);have hae:Hid (x.getD q 0=a):=Zh (by simp[List.getD,ha]);have HS:=Zh (fun W=>Qg a hab.1 hab.2 W);clear ha;go_wp2_with fail
   refine(HS.out _).mono ?_;rintro e w5 ⟨g5,B5,k5,d5,rfl,hz5,hs5⟩;have hx5:Ext wr w5:=Zi;have HZ5:=Zh hz5;clear hz5;go_wp2_with (at_builtin;refine zM _ rfl _ _ 86 rfl w.heap.size 99 (.agg #[.bool false,.slice none 0 0]) 2 32 Tryz.underlying86 ji rfl (by omega) (by omega) A1 q c1 vs rfl (HO.out.ext Zi) (some ⟨w5.heap.size,0,none⟩) 1 1 [.bool g5,.slice B5 k5 d5] rfl (Arr.new w5 99 #[.bool g5,.slice B5 k5 d5]) rfl (zcn _ _ _ _) (by omega) (by have:=(hxr.trans hx5).size;simp;omega) ?_;intro A6 c6 w6 zsA hg;have HO6:=Zh zsA;have HG6:=Zh hg;have hx6:Ext w w6:=hg.ext Zi Zr;clear zsA hg)
   refine⟨⟨q+1,A6,c6,vs++[.bool g5,.slice B5 k5 d5],by omega,by go_num,rfl,HO6,Zh ?_,hx6⟩,by simp[intOf]<;>omega⟩;have hxa:Ext w5 (w5.alloc (.cells #[.bool g5,.slice B5 k5 d5] 99)):=Zi;have hv5:VsOf (w5.alloc (.cells #[.bool g5,.slice B5 k5 d5] 99)) (vs++[.bool g5,.slice B5 k5 d5]) (x.take q++[x.getD q 0]):=VsOf.snoc (HV.out.map fun hz=>(hz.ext hx5).ext hxa) (by rw[HO.out.len,List.length_take,<-HL.out,Nat.min_eq_left hq]) (by rw[hae.out];exact HZ5.out.ext hxa)
   rw[zaD (by rw[<-HL.out];exact hlt)];exact hv5.grow HG6.out (by decide)
  ·obtain rfl:q=n:=by omega
   go_wp2;go_ret;have h2:=HV.out;rw[List.take_of_length_le (by rw[<-HL.out];exact Zr)]at h2;exact⟨A1,c1,rfl,h2.intsV (by rw[HO.out.len,<-HL.out]) HO.out.arr (Ext.refl _),HO.out.cap.1,HO.out.cap.2,hxr.toStep⟩
def qB(m:List (List Int))(n:Nat)(x:List Int):List Int:=m.map fun r=>zj n fun i=>r.getD i 0*x.getD i 0
theorem zet(m:List (List Int))(n:Nat)(x:List Int):(qB m n x).length=m.length:=by simp[qB]
theorem zeu{r:List Int}(hr:m[i]? =some r):(qB m n x).getD i 0=zj n fun j=>r.getD j 0*x.getD j 0:=by
 simp[qB,List.getD,hr]
theorem zoM(hM:MatV w0 A m)(hX:IntsV w1 B x)(h1:1<=m.length)(h2:m.length<=16)(h3:1<=n)(h4:n<=16)(hn:AllLen m n)(hxl:x.length=n)(hk:k<=1000000000000)(hbm:∀i j,Bd k (ent m i j))(hbx:Q8 k x)[hx:Ext w0 w][hy:Ext w1 w]:
  Cq 81 #[.slice A m.length c,.slice B n d] w (zbq w (qB m n x)):=by
 have h0:=hM.ext hx;have hX0:=hX.ext hy;have HSH:=Zh (fun W(e:Ext w W)=>zbo (w:=W) (c:=c) h0 n h1 h2 h3 h4 hn);have HDT:Hid (∀(W0 W:World)(A1:Option Addr)(c1 i:Nat)(r:List Int),m[i]? =some r->IntsV W0 A1 r->Ext W0 W->Ext w W->Cq 83 #[.slice A1 n c1,.slice B n d] W (zz W ((qB m n x).getD i 0))):=Zh (fun W0 W A1 c1 i r hr hI e1 e2=>by
  have hrl:r.length=n:=hn r (Zm hr);rw[zeu hr];refine zcj hI hX0 hrl hxl h4 hk (fun j=>?_) hbx;have:=hbm i j;unfold ent at this;simp only[List.getD,hr,Option.getD_some]at this;exact this)
 have HAL:Hid (∀(i:Nat)(r:List Int),m[i]? =some r->r.length=n):=Zh (fun i r hr=>hn r (Zm hr));have HAR:Hid ((qB m n x).length=m.length):=Zh (zet m n x);unfold zbq;obtain⟨Z,hZ⟩:=Xz (qB m n x);rw[<-hZ]at HDT HAR|-
 obtain⟨zd,hrw⟩:=Xz m.length;rw[<-hrw]at HSH HAR h1 h2|-
 have HRW:=Zh hrw;clear hn hM hX hX0 hxl hbm hbx hZ hrw;go_enter Tryz.func81,Tryz.ntmps81;go_wp2_with (go_at_call 134;refine(HSH.out _ Zi).mono ?_;rintro e w2 ⟨rfl,hs2⟩)
 have zta:Ext w w2:=Zi;go_loopw [9,11,28] (fun s9 _ i wr=>∃(q:Nat) (A1:Option Addr) (c1:Nat) (vs:List Value),q<=zd/\i= .int .i64 q/\s9= .slice A1 q c1/\Hid (Own wr w2.heap.size 99 2 A1 q c1 vs)/\Hid (VsOf wr vs (Z.take q))/\Ext w2 wr) (fun _ _ i _=>zd-(intOf i).toNat)
 case atStart=>exact⟨0,none,0,[],by omega,rfl,rfl,Zh (Own.nil _ _ _ _),Zh (fun i z hz=>by simp at hz),Zi⟩
 case round=>
  obtain⟨q,A1,c1,vs,hq,rfl,rfl,HO,HV,hxr⟩:=hrel;have zsW:Ext w wr:=zta.trans hxr;by_cases hlt:q<zd
  ·obtain⟨r,hr⟩:∃r,m[q]? =some r:=⟨_,Ze (by rw[<-HRW.out];exact hlt)⟩;have hrl:=HAL.out q r hr;obtain⟨b1,o1,B1,d1,rfl,g1,g2,-,-,g3⟩:=(h0.ext zsW).at_ hr;rw[hrl]at g1;have HD:=Zh (fun W(e:Ext wr W)=>HDT.out wr W B1 d1 q r hr g2 e (zsW.trans e));clear hr hrl g2;go_wp2_with fail
   refine(HD.out _ Zi).mono ?_;rintro e w5 ⟨g5,B5,k5,d5,rfl,hz5,hs5⟩;have hx5:Ext wr w5:=Zi;have HZ5:=Zh hz5;clear hz5;go_wp2_with (at_builtin;refine zM _ rfl _ _ 86 rfl w2.heap.size 99 (.agg #[.bool false,.slice none 0 0]) 2 32 Tryz.underlying86 ji rfl (by omega) (by omega) A1 q c1 vs rfl (HO.out.ext Zi) (some ⟨w5.heap.size,0,none⟩) 1 1 [.bool g5,.slice B5 k5 d5] rfl (Arr.new w5 99 #[.bool g5,.slice B5 k5 d5]) rfl (zcn _ _ _ _) (by omega) (by have:=(hxr.trans hx5).size;simp;omega) ?_;intro A6 c6 w6 zsA hg;have HO6:=Zh zsA;have HG6:=Zh hg;have hx6:Ext w2 w6:=hg.ext Zi Zr;clear zsA hg)
   refine⟨⟨q+1,A6,c6,vs++[.bool g5,.slice B5 k5 d5],by omega,by go_num,rfl,HO6,Zh ?_,hx6⟩,by simp[intOf]<;>omega⟩;have hxa:Ext w5 (w5.alloc (.cells #[.bool g5,.slice B5 k5 d5] 99)):=Zi;have hv5:VsOf (w5.alloc (.cells #[.bool g5,.slice B5 k5 d5] 99)) (vs++[.bool g5,.slice B5 k5 d5]) (Z.take q++[Z.getD q 0]):=VsOf.snoc (HV.out.map fun hz=>(hz.ext hx5).ext hxa) (by rw[HO.out.len,List.length_take,HAR.out,Nat.min_eq_left hq]) (HZ5.out.ext hxa)
   rw[zaD (by rw[HAR.out];exact hlt)];exact hv5.grow HG6.out (by decide)
  ·obtain rfl:q=zd:=by omega
   go_wp2;go_ret2
   have h2:=HV.out;rw[List.take_of_length_le (by rw[HAR.out];exact Zr)]at h2;exact⟨A1,c1,by rw[HAR.out];rfl,h2.intsV (by rw[HO.out.len,HAR.out]) HO.out.arr (Ext.refl _),by rw[HAR.out];exact HO.out.cap.1,HO.out.cap.2,zsW.toStep⟩
theorem zhX(hn:n<=16)(hbm:∀i j,Bd k (ent m i j))(hbx:Q8 k x):Q8 (2*k+n) (qB m n x):=fun i=>by
 rw[List.getD_eq_getElem?_getD]
 cases h:m[i]? with
 |none=>simp[qB,h];exact Bd.zero _
 |some r=>
  have e:((qB m n x)[i]?).getD 0=zj n fun j=>r.getD j 0*x.getD j 0:=by
   rw[<-List.getD_eq_getElem?_getD];exact zeu h
  rw[e];refine J5 (n:=n) (fun j _=>?_) n Zr;have h1:=hbm i j;unfold ent at h1;simp only[List.getD,h,Option.getD_some]at h1;have:=h1.mul (hbx j);rw[show k+k=2*k by omega]at this;exact this
theorem zhY(x y:List Int):QF m x y=zj m.length fun i=>x.getD i 0*(qB m m.length y).getD i 0:=by
 unfold QF;refine zX fun i hi=>?_
 have hr:m[i]? =some m[i]:=Ze hi;rw[zeu hr];congr 1
 refine zX fun j _=>?_
 unfold ent;simp[List.getD,hr]
theorem zoN(x:List Int)(k:Nat)(a:Int)(h:x[k]? =some a):zG (x.take (k+1))=if zG (x.take k)=0 then a else zG (x.take k):=by
 induction x generalizing k with
 |nil=>simp at h
 |cons y x ih=>
  cases k with
  |zero=>
   simp at h;subst h;simp only[List.take_succ_cons,List.take_zero,zG];by_cases h:y=0
   ·simp[h]
   ·simp[h]
  |succ k=>
   simp only[List.getElem?_cons_succ]at h;have:=ih k h;simp only[List.take_succ_cons,zG];by_cases hy:y=0
   ·simp only[hy,if_true];exact this
   ·simp[hy]
def Z6(a:Int):Int:=if a<0 then-1 else if a=0 then 0 else 1
theorem zoO(x:List Int)(h:zG x≠0):x.map (fun c=>Z6 (zG x)*c)=zH x:=by
 unfold zH Z6;by_cases h1:zG x<0
 ·rw[if_pos h1,if_pos h1];exact map_congr_left fun c _=>by omega
 ·rw[if_neg h1,if_neg h1,if_neg h];simp
def zev(w:World)(x:List Int)(e:Ending)(w':World):Prop:=
 (zG x=0/\e= .returned (.tuple #[.slice none 0 0,.bool false])/\Step w w')∨
 (zG x≠0/\∃B d,e= .returned (.tuple #[.slice B x.length d,.bool true])/\Ints w' B 2 .i64 (zH x)/\x.length<=d/\d<=9223372036854775807/\Step w w')
theorem zew(a:Int):(a<0/\Z6 a=-1)∨(a=0/\Z6 a=0)∨(0<a/\Z6 a=1):=by
 unfold Z6;split
 ·exact .inl ⟨by assumption,rfl⟩
 ·split
  ·exact .inr (.inl ⟨by assumption,rfl⟩)
  ·exact .inr (.inr ⟨by omega,rfl⟩)
theorem zoP(x:List Int)(s:Int)(q:Nat)(a:Int)(h:x[q]? =some a):((x.take (q+1)).map fun a=>Value.int .i64 (s*a))=((x.take q).map fun a=>Value.int .i64 (s*a))++[.int .i64 (s*a)]:=by
 rw[List.take_add_one,h];simp
theorem zoQ(h:Ints w0 A 2 .i64 x)(h1:x.length<=1000)(hb:∀a∈x,-1099511627776<=a/\a<=1099511627776)[hx:Ext w0 w]:
  Cq 46 #[.slice A x.length c] w (zev w x):=by
 have h0:=h.ext hx;have HI:=Zh (fun W(e:Ext w0 W)=>zoK (w:=W) (c:=c) h (by omega) hb);have HB:=Zh hb;unfold zev;obtain⟨n,hn⟩:=Xz x.length;rw[<-hn]at HI h1|-
 have HL:=Zh hn;clear hb h hn;go_enter Tryz.func46,Tryz.ntmps46;go_wp2_with (go_at_call 77;refine(HI.out _ Zi).mono ?_;rintro e w1 ⟨rfl,rfl⟩)
 go_loop [4,6,15] (fun s _ i=>∃k:Nat,k<=n/\i= .int .i64 k/\s= .int .i64 (Z6 (zG (x.take k)))) (fun _ _ i=>n-(intOf i).toNat)
 case atStart=>exact⟨0,by omega,rfl,rfl⟩
 case round=>
  obtain⟨k,hk,rfl,rfl⟩:=hrel;by_cases hlt:k<n
  ·have hlx:k<x.length:=by rw[<-HL.out];exact hlt
   obtain⟨b1,o1,a,rfl,ha,g1,g2⟩:=h0.at_ hlx;have ztl:=zoN x k a ha;have hs:=zew (zG (x.take k));have HN:Hid (Z6 (zG (x.take (k+1)))=if Z6 (zG (x.take k))=0 then Z6 a else Z6 (zG (x.take k))):=Zh (by
    rw[ztl];by_cases h:zG (x.take k)=0
    ·rw[if_pos h,if_pos (by omega)]
    ·rw[if_neg h,if_neg (by omega)])
   clear ztl hs ha;generalize Z6 (zG (x.take k))=s at*
   rcases zew a with ⟨ha,hsa⟩|⟨ha,hsa⟩|⟨ha,hsa⟩
   ·have e1:(a !=0)=true:=by simp;omega
    have e2:decide (a<0)=true:=by simpa using ha
    by_cases hs:s=0
    ·subst hs;have HN2:Hid (Z6 (zG (x.take (k+1)))=-1):=Zh (by rw[HN.out,if_pos rfl,hsa]);clear ha hsa;go_wp2;exact⟨⟨k+1,by omega,by go_num,by rw[HN2.out]⟩,by simp[intOf];omega⟩
    ·have HN2:Hid (Z6 (zG (x.take (k+1)))=s):=Zh (by rw[HN.out,if_neg hs]);have e3:(s==0)=false:=by simpa using hs
     clear ha hsa hs;go_wp2;exact⟨⟨k+1,by omega,by go_num,by rw[HN2.out]⟩,by simp[intOf];omega⟩
   ·subst ha;by_cases hs:s=0
    ·subst hs;have HN2:Hid (Z6 (zG (x.take (k+1)))=0):=Zh (by rw[HN.out,if_pos rfl,hsa]);clear hsa;go_wp2;exact⟨⟨k+1,by omega,by go_num,by rw[HN2.out]⟩,by simp[intOf];omega⟩
    ·have HN2:Hid (Z6 (zG (x.take (k+1)))=s):=Zh (by rw[HN.out,if_neg hs]);have e3:(s==0)=false:=by simpa using hs
     clear hsa hs;go_wp2;exact⟨⟨k+1,by omega,by go_num,by rw[HN2.out]⟩,by simp[intOf];omega⟩
   ·have e1:(a !=0)=true:=by simp;omega
    have e2:decide (a<0)=false:=by simp;omega
    by_cases hs:s=0
    ·subst hs;have HN2:Hid (Z6 (zG (x.take (k+1)))=1):=Zh (by rw[HN.out,if_pos rfl,hsa]);clear ha hsa;go_wp2;exact⟨⟨k+1,by omega,by go_num,by rw[HN2.out]⟩,by simp[intOf];omega⟩
    ·have HN2:Hid (Z6 (zG (x.take (k+1)))=s):=Zh (by rw[HN.out,if_neg hs]);have e3:(s==0)=false:=by simpa using hs
     clear ha hsa hs;go_wp2;exact⟨⟨k+1,by omega,by go_num,by rw[HN2.out]⟩,by simp[intOf];omega⟩
  ·have htk:x.take k=x:=List.take_of_length_le (by have:=HL.out;omega);rw[htk];have hs:=zew (zG x);clear htk;by_cases hz:zG x=0
   ·have hsz:Z6 (zG x)=0:=by omega
    rw[hsz];have HZ:=Zh hz;clear hs hsz hz;go_wp2;go_ret2
    exact .inl ⟨HZ.out,rfl,Step.of _ _⟩
   ·have HC:=Zh (zoO x hz);have HZ:=Zh hz;have e3:(Z6 (zG x)==0)=false:=by simp;omega
    have hs2:Z6 (zG x)=-1∨Z6 (zG x)=1:=by omega
    clear hs hz;generalize Z6 (zG x)=s at*
    go_wp2;go_loopw [7,9,32] (fun s7 _ i wr=>∃(q:Nat) (A1:Option Addr) (c1:Nat),q<=n/\i= .int .i64 q/\s7= .slice A1 q c1/\Hid (Own wr w.heap.size 2 1 A1 q c1 ((x.take q).map fun a=>Value.int .i64 (s*a)))/\Ext w wr) (fun _ _ i _=>n-(intOf i).toNat)
    case atStart=>exact⟨0,none,0,by omega,rfl,rfl,Zh (Own.nil _ _ _ _),Zi⟩
    case round=>
     obtain⟨q,A1,c1,hq,rfl,rfl,HO,hxr⟩:=hrel;by_cases zsG:q<n
     ·have hlx:q<x.length:=by rw[<-HL.out];exact zsG
      obtain⟨b1,o1,a,rfl,ha,g1,g2⟩:=(h0.ext hxr).at_ hlx;have hab:=HB.out a (Zm ha);have hsa:-1099511627776<=s*a/\s*a<=1099511627776:=by rcases hs2 with rfl|rfl<;>omega
      have HT:=Zh (zoP x s q a ha);obtain⟨p,hp⟩:=Yz (s*a);rw[hp]at hsa HT;have hpw:IntKind.i64.wrap p=p:=Iw;clear ha hs2;go_wp2_with (at_builtin;refine zM _ rfl _ _ 28 rfl w.heap.size 2 (.int .i64 0) 1 8 Tryz.underlying28 qV rfl (by omega) (by omega) A1 q c1 ((x.take q).map fun a=>Value.int .i64 (s*a)) rfl (HO.out.ext Zi) (some ⟨wr.heap.size,0,none⟩) 1 1 [.int .i64 p] rfl (Arr.new wr 2 #[.int .i64 p]) rfl (J6 _) (by omega) (by have:=hxr.size;simp;omega) ?_;intro A6 c6 w6 zsA hg;have HO6:=Zh zsA;have hx6:Ext w w6:=hg.ext Zi Zr;clear zsA hg)
      exact⟨⟨q+1,A6,c6,by omega,by go_num,rfl,Zh (by rw[HT.out];exact HO6.out),hx6⟩,by simp[intOf]<;>omega⟩
     ·obtain rfl:q=n:=by omega
      go_wp2;go_ret2
      have h2:=HO.out;rw[List.take_of_length_le (by rw[<-HL.out];exact Zr)]at h2;refine .inr ⟨HZ.out,A1,c1,rfl,?_,h2.cap.1,h2.cap.2,hxr.toStep⟩;have h3:=h2.arr;have e:(x.map fun a=>Value.int .i64 (s*a))=(zH x).map (Value.int .i64):=by rw[<-HC.out,List.map_map];rfl
      rw[e]at h3;exact h3
theorem zhZ{X Y:Option Addr}{a:Int}(hX:Ints w0 X 2 .i64 x)(hY:Ints w1 Y 2 .i64 y)(hx1:x.length<=1099511627776)(hy1:y.length<=1099511627776)[hx:Ext w0 w][hy:Ext w1 w]:
  Cq 78 #[.agg #[.int .i64 a,.slice X x.length c],.agg #[.int .i64 b,.slice Y y.length d]] w (zF w (.bool (Zo (a,x) (b,y)))):=by
 have hXw:=hX.ext hx;have hYw:=hY.ext hy;have HC:=Zh (fun W(e:Ext w W)=>zdA (w0:=w) (w:=W) (c:=c) (d:=d) hXw hYw hx1 hy1);clear hX hY hXw hYw;rcases Int.lt_trichotomy a b with h|h|h
 ·have HV:Hid (Zo (a,x) (b,y)=true):=Zh (by simp[Zo,JC,zy,qn h]);have d1:decide (a<b)=true:=by simpa using h
  rw[HV.out];clear h;go_enter Tryz.func78,Tryz.ntmps78;go_wp2_with fail
  go_ret;exact⟨rfl,Step.of _ _⟩
 ·subst h;have HV:Hid (Zo (a,x) (a,y)=decide (zy x y<0)):=Zh (by simp[Zo,JC,zy,Qd]);rw[HV.out];have d1:decide (a<a)=false:=by simp
  have d2:(a==a)=true:=by simp
  go_enter Tryz.func78,Tryz.ntmps78;go_wp2_with (go_at_call 47;refine(HC.out _ Zi).mono ?_;rintro e w3 ⟨rfl,nq,rfl⟩)
  go_ret;exact⟨rfl,Step.of _ _⟩
 ·have HV:Hid (Zo (a,x) (b,y)=false):=Zh (by simp[Zo,JC,zy,qM h]);have d1:decide (a<b)=false:=by simp;omega
  have d2:(a==b)=false:=by simp;omega
  rw[HV.out];clear h;go_enter Tryz.func78,Tryz.ntmps78;go_wp2_with fail
  go_ret;exact⟨rfl,Step.of _ _⟩
def ql(m:List (List Int))(k:Nat):List (List Int):=tab (fun i j=>E (ent m) k (k+i) (k+j)) (m.length-k) (m.length-k)
theorem zcz(m:List (List Int))(k:Nat):(ql m k).length=m.length-k:=zv _ _ _
theorem zoR{b:Nat}(h:MatV w0 A m)(h1:m.length=n)(h4:n<=8)(hn:AllLen m n)(hb:BdM b m)(hb1:1<=b)(hbb:b<=1000000)(hk:k<n)(hp:∀l,l<k->E (ent m) l l l≠0)[hx:Ext w0 w]:
  Cq 116 #[.slice A n c,.int .i64 k] w (RetOwnI w (n-k) (ql m k)):=by
 have h0:=h.ext hx;obtain⟨r,hr⟩:=Xz (n-k);have HSE:Hid (∀(W1 W2 W:World)(A1 A2:Option Addr)(c1 c2 i j:Nat),i<r->j<r->Ints W1 A1 3 .i64 (zY (zB k (k+i)))->Ints W2 A2 3 .i64 (zY (zB k (k+j)))->Ext w W->Ext W1 W->Ext W2 W->Cq 119 #[.slice A n c,.slice A1 (k+1) c1,.slice A2 (k+1) c2] W (j4 W (zT m (zB k (k+i)) (zB k (k+j))))):=Zh (fun W1 W2 W A1 A2 c1 c2 i j hi hj e1 e2 x0 x1 x2=>by
  have:=zei (w:=W) (c:=c) (cR:=c1) (cC:=c2) h0 e1 e2 hn (by rw[qx];omega) (by rw[qx];omega) (by rw[h1];exact zaG (by omega) (by omega)) (zaG (by omega) (by omega));rw[h1,qx,qx]at this;exact this)
 have HDT:Hid (∀(W1 W:World)(A1:Option Addr)(c1 i j:Nat),i<r->j<r->MatV W1 A1 (zT m (zB k (k+i)) (zB k (k+j)))->Ext W1 W->Cq 118 #[.slice A1 (k+1) c1] W (zz W (E (ent m) k (k+i) (k+j)))):=Zh (fun W1 W A1 c1 i j hi hj hM e1=>by
  rw[<-zaA hp (k+i) (k+j)];exact zek hM (by omega) hb hb1 hbb)
 have HSL:Hid (∀i j,(zT m (zB k i) (zB k j)).length=k+1):=Zh (fun i j=>by rw[zaF,qx]);have HFL:Hid (∀i,(zY (zB k i)).length=k+1):=Zh (fun i=>by rw[zeh,qx]);have HFI:Hid (∀(W:World)(i:Nat),Cq 120 #[.int .i64 k,.int .i64 i] W (zef W (zY (zB k i)))):=Zh (fun W i=>zhq k i (by omega));have HST:Hid (ql m k=tab (fun i j=>E (ent m) k (k+i) (k+j)) r r):=Zh (by unfold ql;rw[h1,hr]);rw[HST.out,<-hr]
 obtain⟨F,hF⟩:∃F:Nat->Nat->Int,F=fun i j=>E (ent m) k (k+i) (k+j):=⟨_,rfl⟩
 rw[<-hF];have hFij:∀i j,E (ent m) k (k+i) (k+j)=F i j:=fun i j=>by rw[hF]
 have zsl:Hid (∀(W1 W:World)(A1:Option Addr)(c1 i j:Nat),i<r->j<r->MatV W1 A1 (zT m (zB k (k+i)) (zB k (k+j)))->Ext W1 W->Cq 118 #[.slice A1 (k+1) c1] W (zz W (F i j))):=Zh (fun W1 W A1 c1 i j hi hj hM e1=>by
  have:=HDT.out W1 W A1 c1 i j hi hj hM e1;rwa [hFij]at this)
 have hnk:(n:Int)-(k:Int)=(r:Int):=by omega
 have hrw:IntKind.i64.wrap ((n:Int)-k)=(r:Int):=by rw[show (n:Int)-k=(r:Int) by omega];exact Iw
 clear hn hb h1 hp HDT HST hF hFij hr;go_enter Tryz.func116,Tryz.ntmps116;go_wp2_with (go_at_call 139;refine(zbn r r (by omega) (by omega)).mono ?_;rintro e w3 ⟨g,hs,cz,rfl,hO,zsQ,zs6,hs2⟩;rw[zv]at zsQ|-;have HO:=Zh hO;clear hO)
 have hx3:Ext w w3:=Zi;go_loopw [7,8,18,26] (fun _ _ i _ wr=>∃q:Nat,q<=r/\i= .int .i64 q/\Hid (OwnI wr w.heap.size g r hs (tab (Qj F q 0) r r))/\Ext w wr) (fun _ _ i _ _=>r-(intOf i).toNat)
 case atStart=>exact⟨0,by omega,rfl,Zh (by rw[zeb];exact HO.out),Zi⟩
 case round=>
  obtain⟨i,hi,rfl,HO1,hxr⟩:=hrel;obtain⟨wo,rfl⟩:∃wo:World,wo=wr:=⟨_,rfl⟩;by_cases hlt:i<r
  ·obtain⟨b0,c0,hp0,d1,d2,d3,d4,d5,d6⟩:=HO1.out.hdr (i:=i) (by rw[zv];exact hlt);clear hp0;go_wp2_with fail
   go_loopw [8,26] (fun _ j wr=>∃q:Nat,q<=r/\j= .int .i64 q/\Hid (OwnI wr w.heap.size g r hs (tab (Qj F i q) r r))/\Ext w wr) (fun _ j _=>r-(intOf j).toNat)
   case atStart=>exact⟨0,by omega,rfl,HO1,Zi⟩
   case round=>
    obtain⟨q,hq,rfl,HO2,hxq⟩:=hrel;by_cases zsG:q<r
    ·obtain⟨b1,c1,hp1,f1,f2,f3,f4,f5,f6⟩:=HO2.out.hdr (i:=i) (by rw[zv];exact hlt);have HP1:=Zh hp1;have HX:=Zh (fun W hh=>HO2.out.hdrX hp1 (by rw[zv];exact hlt) W hh);have hlo:=HO2.out.lo_row hp1;have hnw:New b1 w:=⟨hlo⟩;have HE:Hid (∀W,Ext wr W->∃s B k' d,W.cell? ⟨b1,q*2,none⟩=some (.bool s)/\W.cell? ⟨b1,q*2+1,none⟩=some (.slice B k' d)/\W.frozen? ⟨b1,q*2,none⟩=false/\W.frozen? ⟨b1,q*2+1,none⟩=false/\b1<W.heap.size):=Zh (fun W hh=>by
      obtain⟨s,B,k',d,a1,a2,-,a4,a5⟩:=(HO2.out.ext hh).entry (i:=i) HP1.out (by rw[zv];exact hlt) zsG;exact⟨s,B,k',d,a1,a2,a4,a5,Nat.lt_of_lt_of_le f5 hh.size⟩)
     have hki:IntKind.i64.wrap ((k:Int)+(i:Int))=((k+i:Nat):Int):=by rw[show (k:Int)+(i:Int)=((k+i:Nat):Int) by simp];exact Iw
     have hkq:IntKind.i64.wrap ((k:Int)+(q:Int))=((k+q:Nat):Int):=by rw[show (k:Int)+(q:Int)=((k+q:Nat):Int) by simp];exact Iw
     have HF1:=Zh (fun W=>HFI.out W (k+i));have HF2:=Zh (fun W=>HFI.out W (k+q));clear hp1;go_wp2_with fail
     go_region_held3 (fun w'=>w'.cell? ⟨g,i,none⟩=some (.slice (some ⟨b1,0,none⟩) r c1))
      (first|exact(HX.out _ Zi).1|exact(HX.out _ Zi).2 _ _ _ _)
      (first
       |(have hh:=hI6;clear hh;go_at_call 120;refine(HF2.out _).mono ?_;rintro e w7 ⟨A7,c7,rfl,hI7,-,-,hs7⟩;rw[HFL.out])
       |(go_at_call 120;refine(HF1.out _).mono ?_;rintro e w6 ⟨A6,c6,rfl,hI6,-,-,hs6⟩;rw[HFL.out])
       |(go_at_call 119;refine(HSE.out _ _ _ _ _ _ _ i q hlt zsG hI6 hI7 Zi Zi Zi).mono ?_;rintro e w8 ⟨A8,c8,rfl,hM8,-,-,hs8⟩;rw[HSL.out])
       |(go_at_call 118;refine(zsl.out _ _ _ _ i q hlt zsG hM8 Zi).mono ?_;rintro e w5 ⟨g5,B5,k5,n5,rfl,hz5,hs5⟩;obtain⟨s6,B6,k6,n6,u1,u2,u3,u4,u5⟩:=HE.out w5 Zi))
     go_wp2_with fail
     refine⟨⟨q+1,by omega,by go_num,Zh ?_,?_⟩,by simp[intOf]<;>omega⟩
     ·have hO5:=(HO2.out.ext (Zi:Ext wr w5)).set HP1.out (by rw[zv];exact hlt) zsG hz5;rw[zd8 hlt zsG]at hO5;exact hO5
     ·exact((Zi:Ext w w5).setCell (p:=⟨b1,q*2,none⟩) hlo _).setCell (p:=⟨b1,q*2+1,none⟩) hlo _
    ·obtain rfl:q=r:=by omega
     go_wp2_with fail
     exact⟨⟨i+1,by omega,by go_num,Zh (by rw[<-zd9];exact HO2.out),hxq⟩,by simp[intOf]<;>omega⟩
  ·obtain rfl:i=r:=by omega
   go_wp2_with fail
   go_ret;have h:=HO1.out;rw[zea]at h;exact⟨g,hs,cz,by rw[zv];rfl,h,by rw[zv];exact zsQ,zs6,hxr.toStep⟩
def zcA(w:World)(m:List (List Int))(e:Ending)(w':World):Prop:=∃B d,e= .returned (.tuple #[.slice B m.length d,.bool true])/\StV w' B ((List.range m.length).map (ql m))/\m.length<=d/\d<=9223372036854775807/\Step w w'
def StHd(w:World)(m:List (List Int))(q:Nat)(vs:List Value):Prop:=vs.length=q/\∀i,i<q->∃B c,vs[i]? =some (.slice B (m.length-i) c)/\MatV w B (ql m i)/\m.length-i<=c/\c<=9223372036854775807
theorem StHd.map{w':World}(h:StHd w m q vs)(hk:∀{B:Option Addr}{M:List (List Int)},MatV w B M->MatV w' B M):StHd w' m q vs:=⟨h.1,fun i hi=>by
 obtain⟨B,c,a1,a2,a3⟩:=h.2 i hi;exact⟨B,c,a1,hk a2,a3⟩⟩
theorem StHd.snoc(h:StHd w m q vs)(hM:MatV w B (ql m q))(h1:m.length-q<=c)(h2:c<=9223372036854775807):StHd w m (q+1) (vs++[.slice B (m.length-q) c]):=by
 refine⟨by simp[h.1],fun i hi=>?_⟩;rcases Zl i q with hlt|hge
 ·obtain⟨B',c',a1,a2,a3⟩:=h.2 i hlt;exact⟨B',c',by rw[List.getElem?_append_left (by rw[h.1];exact hlt)];exact a1,a2,a3⟩
 ·obtain rfl:i=q:=by omega
  exact⟨B,c,by rw[List.getElem?_append_right (by rw[h.1];exact Zr),h.1,Nat.sub_self];rfl,hM,h1,h2⟩
theorem StHd.stV(h:StHd w m m.length vs)(ha:Arr w A 101 vs):StV w A ((List.range m.length).map (ql m)):=by
 refine⟨vs,by simp[h.1],ha,fun i M hM=>?_⟩;rw[List.getElem?_map]at hM
 cases hr:(List.range m.length)[i]? with
 |none=>rw[hr]at hM;cases hM
 |some j=>
  have hij:i=j/\i<m.length:=by
   obtain⟨h1,h2⟩:=Zg.1 hr;simp at h1 h2;exact⟨h2,h1⟩
  obtain⟨rfl,hi⟩:=hij;rw[hr]at hM;injection hM with hM
  subst hM;obtain⟨B,c,a1,a2,a3⟩:=h.2 i hi;exact⟨B,c,by rw[zcz];exact a1,a2,by rw[zcz];exact a3.1,a3.2⟩
set_option maxRecDepth 20000 in
theorem zoS{b:Nat}(h:MatV w0 A m)(h1:m.length=n)(h3:1<=n)(h4:n<=8)(hn:AllLen m n)(hb:BdM b m)(hb1:1<=b)(hbb:b<=1000000)(hp:Pos (zg (ent m)) n)[hx:Ext w0 w]:
  Cq 70 #[.slice A n c] w (zcA w m):=by
 have h0:=h.ext hx;have HLE:=Zh (fun W(e1:Ext w W)=>zbr (w:=W) (c:=c) h0 h1 h3 h4 hn hb hb1 hbb);have HLL:Hid ((zw m).length=n):=Zh (by rw[QN];exact h1);have HPX:Hid (∀i,i<n->0<(zw m).getD i 0):=Zh (fun i hi=>by
  rw[zdO (by rw[h1];exact hp) (by rw[h1];exact hi)];exact qt hp hi)
 have HBX:Hid (Q8 (256*(b+1)) (zw m)):=Zh (zaI (by omega) hb1 hb);have HSG:Hid (∀(W:World)(k:Nat),k<n->Ext w W->Cq 116 #[.slice A n c,.int .i64 k] W (RetOwnI W (n-k) (ql m k))):=Zh (fun W k hk e=>zoR h0 h1 h4 hn hb hb1 hbb hk (fun l hl=>by have:=qt hp (show l<n by omega);omega));have HSL:Hid (∀k,(ql m k).length=n-k):=Zh (fun k=>by rw[zcz,h1]);unfold zcA;have HM1:=Zh h1;rw[h1];have hbk:b<=1000000:=hbb
 have hw:IntKind.i64.wrap ((n:Int)-1)=((n-1:Nat):Int):=by rw[show (n:Int)-1=((n-1:Nat):Int) by omega];exact Iw
 clear hn hb hp h1 h;generalize zw m=ds at*
 go_enter Tryz.func70,Tryz.ntmps70;go_wp2_with (go_at_call 71;refine(HLE.out _ Zi).mono ?_;rintro e w1 ⟨BD,dD,rfl,hI1,hd1,hd2,hs1⟩;rw[HLL.out]at hd1|-;have HI:=Zh hI1;clear hI1)
 have zti:Ext w w1:=Zi;go_loopw [7,23] (fun _ i wr=>∃q:Nat,q<=n-1/\i= .int .i64 q/\Ext w1 wr) (fun _ i _=>n-1-(intOf i).toNat)
 case atStart=>exact⟨0,by omega,rfl,Zi⟩
 case round=>
  obtain⟨q,hq,rfl,hxr⟩:=hrel;have zsW:Ext w wr:=zti.trans hxr;by_cases hlt:q<n-1
  ·obtain⟨bb,ob,g,B,k,d,rfl,y1,y2,hz,hb2⟩:=(HI.out.ext hxr).atD (i:=q) (by rw[HLL.out];omega);have zsH:=HPX.out q (by omega);have zsB:=hz.bd (HBX.out q) (by omega);generalize ds.getD q 0=z at*
   have hcz:(zm z 0==0)=false:=by rw[qM zsH];rfl
   have HS:Hid (∀W,Ext wr W->Cq 115 #[.agg #[.bool g,.slice B k d]] W (zF W (.int .i64 (zm z 0)))):=Zh (fun W e=>QV hz (by omega));clear hz zsH;generalize zm z 0=cz at*
   go_wp2_with (go_at_call 115;refine(HS.out _ Zi).mono ?_;rintro e w2 ⟨rfl,hs2⟩)
   exact⟨⟨q+1,by omega,by go_num,Zi⟩,by simp[intOf]<;>omega⟩
  ·obtain rfl:q=n-1:=by omega
   clear hlt hq;go_wp2_with fail
   go_loopw [8,9,33] (fun s8 _ i wr'=>∃(q:Nat) (A1:Option Addr) (c1:Nat) (vs:List Value),q<=n/\i= .int .i64 q/\s8= .slice A1 q c1/\Hid (Own wr' w.heap.size 101 1 A1 q c1 vs)/\Hid (StHd wr' m q vs)/\Ext w wr') (fun _ _ i _=>n-(intOf i).toNat)
   case atStart=>exact⟨0,none,0,[],by omega,rfl,rfl,Zh (Own.nil _ _ _ _),Zh ⟨rfl,fun i hi=>absurd hi (by omega)⟩,zsW⟩
   case round=>
    obtain⟨k,A1,c1,vs,hk,rfl,rfl,HO,HV,hxk⟩:=hrel;by_cases hlt:k<n
    ·have HS:Hid (∀W,Ext w W->Cq 116 #[.slice A n c,.int .i64 k] W (j4 W (ql m k))):=Zh (fun W e=>(HSG.out W k hlt e).mono fun _ _ h=>h.mat);have hkl:=HSL.out k;go_wp2_with fail
     refine(HS.out _ Zi).mono ?_;rintro e w5 ⟨B5,c5,rfl,hM5,zuw,zu0,hs5⟩;rw[hkl]at zuw|-
     have hx5:Ext wr w5:=Zi;have HM5:=Zh hM5;clear hM5 hkl;go_wp2_with (at_builtin;refine zM _ rfl _ _ 85 rfl w.heap.size 101 (.slice none 0 0) 1 24 Tryz.underlying85 zc9 rfl (by omega) (by omega) A1 k c1 vs rfl (HO.out.ext Zi) (some ⟨w5.heap.size,0,none⟩) 1 1 [.slice B5 (n-k) c5] rfl (Arr.new w5 101 #[.slice B5 (n-k) c5]) rfl (zhr _ _ _) (by omega) (by have:=(hxk.trans hx5).size;simp;omega) ?_;intro A6 c6 w6 zsA hg;have HO6:=Zh zsA;have HG6:=Zh hg;have hx6:Ext w w6:=hg.ext Zi Zr;clear zsA hg)
     refine⟨⟨k+1,A6,c6,vs++[.slice B5 (n-k) c5],by omega,by go_num,rfl,HO6,Zh ?_,hx6⟩,by simp[intOf]<;>omega⟩;have hxa:Ext w5 (w5.alloc (.cells #[.slice B5 (n-k) c5] 101)):=Zi;have h6:=StHd.snoc (m:=m) (HV.out.map fun h=>(h.ext hx5).ext hxa) (HM5.out.ext hxa) (c:=c5) (by rw[HM1.out];exact zuw) zu0;rw[HM1.out]at h6;exact h6.map fun h=>h.grow HG6.out (by decide) (by decide) (by decide)
    ·obtain rfl:k=n:=by omega
     go_wp2_with fail
     go_ret2
     have hst:=HV.out;rw[<-HM1.out]at hst;have ztV:=hst.stV HO.out.arr;rw[HM1.out]at ztV;exact⟨A1,c1,rfl,ztV,HO.out.cap.1,HO.out.cap.2,hxk.toStep⟩
end
section
open La
def jt(x:List Int)(s:Int)(y:List Int):List Int:=(List.range x.length).map fun i=>x.getD i 0+s*y.getD i 0
theorem zex(x:List Int)(s:Int)(y:List Int):(jt x s y).length=x.length:=by simp[jt]
theorem zh0{s:Int}(hi:i<x.length):(jt x s y).getD i 0=x.getD i 0+s*y.getD i 0:=by
 simp[jt,List.getD,hi]
def zcB(m:List (List Int))(x y:List Int):Int:=zj m.length fun i=>x.getD i 0*(zj m.length fun j=>ent m i j*y.getD j 0)+y.getD i 0*(zj m.length fun j=>ent m i j*x.getD j 0)
theorem zh1(hn:AllLen m m.length)(x y:List Int)(s:Int)(hx:x.length=m.length)(hy:y.length=m.length):zi m (jt x s y)=zi m x+s*zcB m x y+s*s*zi m y:=by
 rw[<-zaa hn x hx,<-zaa hn y hy,<-zaa hn (jt x s y) (by rw[zex,hx])];unfold QF zcB;have h1:(zj m.length fun i=>(jt x s y).getD i 0*zj m.length fun j=>ent m i j*(jt x s y).getD j 0)=
   zj m.length fun i=>(x.getD i 0*(zj m.length fun j=>ent m i j*x.getD j 0))+(s*(x.getD i 0*(zj m.length fun j=>ent m i j*y.getD j 0)+y.getD i 0*(zj m.length fun j=>ent m i j*x.getD j 0))+s*s*(y.getD i 0*(zj m.length fun j=>ent m i j*y.getD j 0))):=by
  refine zX fun i hi=>?_
  have h2:(zj m.length fun j=>ent m i j*(jt x s y).getD j 0)=(zj m.length fun j=>ent m i j*x.getD j 0)+s*(zj m.length fun j=>ent m i j*y.getD j 0):=by
   rw[<-zcx,<-zbw];refine zX fun j hj=>?_
   rw[zh0 (by omega)];grind
  rw[h2,zh0 (by omega)];generalize (zj m.length fun j=>ent m i j*x.getD j 0)=X;generalize (zj m.length fun j=>ent m i j*y.getD j 0)=Y;grind
 rw[h1,zbw,zbw,zcx,zcx];omega
def fB(m:List (List Int))(s i j:Nat):Int:=E (ent m) s (s+i) (s+j)
def fL(m:List (List Int))(s:Nat)(t:List Int):Int:=zj t.length fun j=>fB m s 0 (j+1)*t.getD j 0
def fC(m:List (List Int))(s:Nat)(t:List Int):Int:=zj t.length fun i=>t.getD i 0*zj t.length fun j=>fB m s (i+1) (j+1)*t.getD j 0
theorem zh2(m:List (List Int))(s:Nat)(t:List Int):fL m s t=ZV (E (ent m) s s) (s+1) t:=by
 rw[J9];refine zX fun j _=>?_
 unfold fB;rw[show s+1+j=s+(j+1) by omega,Nat.add_zero]
theorem zoT(m:List (List Int))(s:Nat)(t:List Int):fL m s t=lE (ent m) s (0::t):=by
 rw[zh2];unfold lE;rw[ZV,Int.mul_zero,Int.zero_add]
theorem zoU(m:List (List Int))(s:Nat)(t:List Int):fC m s t=qE (ent m) s (0::t):=by
 unfold qE jO;rw[ZV,Int.mul_zero,Int.zero_add,J9];unfold fC;refine zX fun i _=>?_
 rw[Int.mul_comm];congr 1
 rw[ZV,Int.mul_zero,Int.zero_add,J9];refine zX fun j _=>?_
 unfold fB;rw[show s+1+j=s+(j+1) by omega,show s+1+i=s+(i+1) by omega]
theorem zoV(hr:RedOK m){s:Nat}(hs:s<m.length)(b:Int)(t:List Int)(ht:t.length=m.length-1-s)(h0:0<=left (ent m) b (s+1) t):
  0<=fL m s t*fL m s t-fB m s 0 0*(fC m s t-b*zx (ent m) s)/\
  ((zu (fL m s t*fL m s t-fB m s 0 0*(fC m s t-b*zx (ent m) s)).toNat:Int)-fL m s t) / fB m s 0 0=Zb m b s t/\
  -(((zu (fL m s t*fL m s t-fB m s 0 0*(fC m s t-b*zx (ent m) s)).toNat:Int)+fL m s t) / fB m s 0 0)=zJ m b s t/\0<fB m s 0 0:=by
 have hp:=qt hr.pos hs;have hb:fB m s 0 0=zx (ent m) (s+1):=rfl;have hd:fL m s t*fL m s t-fB m s 0 0*(fC m s t-b*zx (ent m) s)=ZN (zo m m.length) s (left (ent m) b (s+1) t):=by
  rw[zoT,zoU,hb,zoF hr hs,ZN,qv (by omega)]
 have hl:0<zx (ent m) s:=Z3 hr.pos (by omega);rw[hd];have hv:qP (zt m m.length) s t=fL m s t:=by rw[zdT hs t ht,zh2]
 have hD:vD (zo m m.length) (s+1)=fB m s 0 0:=by rw[qv (by omega)];rfl
 refine⟨?_,?_,?_,hp⟩
 ·unfold ZN;rw[qv (by omega)];exact Int.mul_nonneg (Int.le_of_lt hl) h0
 ·unfold Zb qa vR;rw[hv,hD]
 ·unfold zJ zW vR;rw[hv,hD]
def ZY(m:List (List Int))(b:Int)(k:Nat)(t:List Int):List (Int×Int):=ZB (zo m m.length) (zt m m.length) m.length k (left (ent m) b (k+1) t) t
def ZF(m:List (List Int))(b:Int)(k:Nat)(t:List Int)(q:Nat):List (Int×Int):=(List.range q).flatMap fun(j:Nat)=>ZY m b k ((zJ m b (k+1) t+(j:Int))::t)
theorem zey(m:List (List Int))(b:Int)(k:Nat)(t:List Int)(q:Nat):ZF m b k t (q+1)=ZF m b k t q++ZY m b k ((zJ m b (k+1) t+(q:Int))::t):=by
 unfold ZF;rw[List.range_succ,List.flatMap_append,List.flatMap_singleton]
theorem zez(m:List (List Int))(b:Int)(t:List Int):ZY m b 0 t=[((m.length:Int),Zb m b 0 t-zJ m b 0 t+1)]:=rfl
theorem zh3(hr:RedOK m)(hk:k+1<m.length)(b:Int)(t:List Int)(ht:t.length=m.length-1-(k+1)):
  ZY m b (k+1) t=((m.length:Int)-(k+1:Nat),Zb m b (k+1) t-zJ m b (k+1) t+1)::ZF m b k t (qc m b (k+1) t):=by
 unfold ZY ZF qc;rw[ZB];congr 1
 refine congrArg (fun F=>List.flatMap F _) ?_;funext j
 rw[QL hr (by omega) b t ht];rfl
def Zt(cs:List Int)(ys:List (Int×Int)):List Int:=(List.range cs.length).map fun i=>cs.getD i 0+zU ys i
theorem zcC(cs:List Int)(ys:List (Int×Int)):(Zt cs ys).length=cs.length:=by simp[Zt]
theorem zoW(h:i<cs.length):(Zt cs ys).getD i 0=cs.getD i 0+zU ys i:=by
 simp[Zt,List.getD,h]
theorem zeA(cs:List Int):Zt cs []=cs:=by
 apply ext_getElem
 ·exact zcC _ _
 ·intro i h1 h2;simp[Zt,zU,h2]
theorem zh4(cs:List Int)(a b:List (Int×Int)):Zt (Zt cs a) b=Zt cs (a++b):=by
 unfold Zt;simp only[List.length_map,List.length_range];refine map_congr_left fun i hi=>?_
 have hi':i<cs.length:=by simpa using hi
 rw[zdZ];simp[List.getD,hi'];omega
theorem zh5(h:∀p∈ys,1<=p.1/\p.1<=(cs.length:Int)):(Zt cs ys).sum=cs.sum+zI ys:=by
 unfold Zt;rw[zg6 (List.range cs.length) (fun i=>cs.getD i 0) (zU ys),zd1 _ _ h];congr 2
 apply ext_getElem
 ·simp
 ·intro i h1 h2;simp[h2]
theorem zoX(h:i<cs.length):Zt cs [((i:Int)+1,z)]=cs.set i (cs.getD i 0+z):=by
 apply ext_getElem
 ·simp[Zt]
 ·intro j h1 h2;have hj:j<cs.length:=by simpa using h2
  simp only[Zt,List.getElem_map,List.getElem_range,zU,List.getElem_set];by_cases e:i=j
  ·subst e;rw[if_pos (by omega),if_pos rfl];simp[h]
  ·rw[if_neg (by omega),if_neg e];simp[hj]
theorem zeB(hr:RedOK m)(hb:0<=b)(hb1:b<1073741824)(hk:k<m.length)(ht:t.length=m.length-1-k)(h0:0<=left (ent m) b (k+1) t):∀p∈ZY m b k t,0<=p.2/\1<=p.1/\p.1<=(m.length:Int):=zd0 hr hb hb1 k t hk ht h0
theorem zoY(hr:RedOK m)(hb:0<=b)(hb1:b<1073741824)(hk:k+1<m.length)(ht:t.length=m.length-1-(k+1))(h0:0<=left (ent m) b (k+2) t)(hq:q<=qc m b (k+1) t):∀p∈ZF m b k t q,0<=p.2/\1<=p.1/\p.1<=(m.length:Int):=fun p hp=>by
 unfold ZF at hp;rw[List.mem_flatMap]at hp;obtain⟨j,hj,hp⟩:=hp;rw[mem_range]at hj;exact zeB hr hb hb1 (by omega) (by simp[ht];omega) (Ja hr t (by omega) ht h0 (j:=j) (by unfold qc Zb zJ at hq;unfold Za;omega)) p hp
theorem zh6(h:∀p∈ys,0<=p.2):0<=zI ys:=by
 induction ys with
 |nil=>exact Int.le_refl _
 |cons p ys ih=>
  have:=h p (by simp);have:=ih (fun q hq=>h q (by simp[hq]));simp only[zI];omega
theorem zoZ(hr:RedOK m)(hb:0<=b)(hb1:b<1073741824)(hk:k+1<m.length)(ht:t.length=m.length-1-(k+1))(h0:0<=left (ent m) b (k+2) t){p:Nat}(hpq:p<=q)(hq:q<=qc m b (k+1) t):zI (ZF m b k t p)<=zI (ZF m b k t q):=by
 induction q with
 |zero=>obtain rfl:p=0:=by omega
        exact Int.le_refl _
 |succ q ih=>
  rcases Zl p (q+1) with h|h
  ·have h1:=ih (by omega) (by omega);rw[zey,zdY];have h2:=zh6 (fun p hp=>(zeB hr hb hb1 (b:=b) (k:=k) (t:=(zJ m b (k+1) t+(q:Int))::t) (by omega) (by simp[ht];omega) (Ja hr t (by omega) ht h0 (j:=q) (by unfold qc Zb zJ at hq;unfold Za;omega)) p hp).1);omega
  ·obtain rfl:p=q+1:=by omega
   exact Int.le_refl _
theorem zeC(hr:RedOK m)(hb:0<=b)(hb1:b<1073741824)(hk:k<m.length)(ht:t.length=m.length-1-k)(h0:0<=left (ent m) b (k+1) t):
  0<=Zb m b k t-zJ m b k t+1/\Zb m b k t-zJ m b k t+1<=1099511627776/\-1099511627776<=zJ m b k t/\zJ m b k t<=1099511627776/\-1099511627776<=Zb m b k t/\Zb m b k t<=1099511627776:=by
 have hv:=JX (hr.num hb hb1) (jQ hr hb hb1 t k hk ht h0);have he:=JW (hr.num hb hb1) (jQ hr hb hb1 t k hk ht h0);have hS:=j7 (hr.num hb hb1) (jQ hr hb hb1 t k hk ht h0);have hR:=j6 (hr.num hb hb1) (jQ hr hb hb1 t k hk ht h0);unfold Zb zJ;unfold Za at hv;refine⟨hv.1,hv.2,?_⟩;omega
def ysR(m:List (List Int))(b:Int):Nat->List Int->List (Int×Int)
 |0,_=>[]
 |k+1,t=>ZF m b k t (qc m b (k+1) t)
theorem zo0(hr:RedOK m)(hk:k<m.length)(b:Int)(t:List Int)(ht:t.length=m.length-1-k):
  ZY m b k t=((m.length:Int)-(k:Nat),Zb m b k t-zJ m b k t+1)::ysR m b k t:=by
 cases k with
 |zero=>rw[zez];simp[ysR]
 |succ k=>exact zh3 hr hk b t ht
theorem zo1(hr:RedOK m)(h1:m.length=1)(hb:0<=b):zJ m b 0 []=-((zu (b / ent m 0 0).toNat:Nat):Int)/\Zb m b 0 []=((zu (b / ent m 0 0).toNat:Nat):Int):=by
 have zsH:1<=ent m 0 0:=by
  have:=Z3 hr.pos (k:=1) (by omega);have e:zx (ent m) 1=ent m 0 0:=rfl;omega
 obtain⟨hin,ztz⟩:=zdB zsH hb;have key:∀c:Int,(zJ m b 0 []<=c/\c<=Zb m b 0 [])↔ent m 0 0*c*c<=b:=fun c=>by
  have h:=j9 hr (k:=0) (by omega) (za:=b) [] (by simp[h1]) (by have:=J3 hr hb;rw[h1]at this;exact this) c;refine h.trans ?_;rw[jP (qu hr.small) b [c] (by simp[h1])];have e:zi m [c]=ent m 0 0*c*c:=by
   rw[zbi (qu hr.small) _ (by simp[h1])];simp[qE,jO,ZV,E,ent]
  rw[e];omega
 obtain⟨r,hrr⟩:∃r:Nat,zu (b / ent m 0 0).toNat=r:=⟨_,rfl⟩;rw[hrr]at hin ztz|-
 have a1:ent m 0 0*(r:Int)*r<=b:=by
  by_cases h0:r=0
  ·subst h0;simpa using hb
  ·exact hin r (by omega) (by omega)
 have a2:ent m 0 0*(-(r:Int))*(-(r:Int))<=b:=by
  have:ent m 0 0*(-(r:Int))*(-(r:Int))=ent m 0 0*(r:Int)*r:=by grind
  omega
 have a3:¬ent m 0 0*(-((r:Int)+1))*(-((r:Int)+1))<=b:=by
  have:ent m 0 0*(-((r:Int)+1))*(-((r:Int)+1))=ent m 0 0*((r:Int)+1)*((r:Int)+1):=by grind
  omega
 have b1:=(key r).2 a1;have b2:=(key (-(r:Int))).2 a2;have b3:¬(zJ m b 0 []<=-((r:Int)+1)/\-((r:Int)+1)<=Zb m b 0 []):=fun h=>a3 ((key (-((r:Int)+1))).1 h)
 have b4:¬(zJ m b 0 []<=(r:Int)+1/\(r:Int)+1<=Zb m b 0 []):=fun h=>(show ¬ent m 0 0*((r:Int)+1)*((r:Int)+1)<=b by omega) ((key ((r:Int)+1)).1 h)
 constructor<;>omega
theorem zh7(hr:RedOK m)(hb:0<=b):qH (zo m m.length) (zt m m.length) m.length b=ZY m b (m.length-1) []:=by
 have hl:=Qo hr.small;unfold qH;by_cases h1:m.length=1
 ·rw[if_pos h1];have e:vD (zo m m.length) 1=ent m 0 0:=by rw[qv (by omega)];rfl
  rw[e];obtain⟨a1,a2⟩:=zo1 hr h1 hb;have:ZY m b (m.length-1) []=[((m.length:Int),Zb m b 0 []-zJ m b 0 []+1)]:=by rw[show m.length-1=0 by omega];exact zez m b []
  rw[this,a1,a2,h1];congr 1
  congr 1
  omega
 ·rw[if_neg h1,zg3 hr];rfl
theorem zo2(hr:RedOK m)(hb:0<=b):Z4 m b=zI (ZY m b (m.length-1) []):=by
 unfold Z4;rw[zh7 hr hb]
theorem zh8(hr:RedOK m)(hb:0<=b):qz m b=Zt (List.replicate m.length 0) (ZY m b (m.length-1) []):=by
 unfold qz Zt;rw[zh7 hr hb,List.length_replicate];refine map_congr_left fun i hi=>?_
 have hi':i<m.length:=by simpa using hi
 simp[List.getD,hi']
end
end Go.Proofs.YtcmkopogafchiaaGreat

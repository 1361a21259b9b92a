import Derived.Test.YtpijjipngkdhdaaGreatE19
set_option maxHeartbeats 8000000
set_option linter.unusedVariables false
set_option linter.unusedSimpArgs false
namespace Go.Proofs.YtpijjipngkdhdaaGreat
open Go.RowKit
variable {b:Int} {m:List (List Int)} {x y:List Int} {c d k n:Nat} {A X Y:Option Addr} {w w0 w1:World}
section
variable {w w':World} {g:Nat} {e:TypeId} {vs:List Value}
end
section
variable {w w' w2:World} {ze:Nat} {e:TypeId}
theorem Grow.of_ext(h:Ext w w')(hb:ze<=w.heap.size):Grow ze e w w':=⟨h.below.mono hb,fun k hk _=>h.below.block k hk⟩
end
def Vn(w:World)(v:Value)(e:Ending)(w':World):Prop:=e= .returned v/\∃n,w'=w.drewN n
theorem vi(hX:Ints w0 X 2 .i64 x)(hY:Ints w0 Y 2 .i64 y)(hx1:x.length<=1099511627776)(hy1:y.length<=1099511627776)[hx:Ext w0 w]:
  Calls Tryz.prog 42 #[.slice X x.length c,.slice Y y.length d] w (Vn w (.int .i64 (zB x y))):=by
 go_enter Tryz.func42,Tryz.ntmps42;go_wp2;go_loopw [5] (fun i wr=>∃k:Nat,k<=x.length/\k<=y.length/\i= .int .i64 k/\Hid (zB x y=zB (x.drop k) (y.drop k))/\Hid (∃n,wr=w.drewN n)) (fun i _=>x.length-(intOf i).toNat)
 case atStart=>exact⟨0,by omega,by omega,rfl,Zh rfl,Zh ⟨0,rfl⟩⟩
 case round=>
  obtain⟨k,hk1,hk2,rfl,HE,HN⟩:=hrel;have hxn:Ext w0 wr:=by obtain⟨n,hn⟩:=HN.out;rw[hn];infer_instance
  by_cases hlt:k<x.length
  ·obtain⟨b1,o1,a,rfl,ha,g1,g2⟩:=(hX.ext hxn).at_ hlt;by_cases zr5:k<y.length
   ·obtain⟨b2,o2,b,rfl,hb,g3,g4⟩:=(hY.ext hxn).at_ zr5;have ea:x.drop k=a::x.drop (k+1):=by rw[List.drop_eq_getElem_cons hlt,(Zg.1 ha).2]
    have eb:y.drop k=b::y.drop (k+1):=by rw[List.drop_eq_getElem_cons zr5,(Zg.1 hb).2]
    have HE2:Hid (zB x y=if zk a b=0 then zB (x.drop (k+1)) (y.drop (k+1)) else zk a b):=Zh (by rw[HE.out,ea,eb,zB]);clear ha hb ea eb;by_cases hab:a<b
    ·have h1:(a !=b)=true:=by simp;omega
     have h2:decide (a<b)=true:=by simpa using hab
     have HV:Hid (zB x y=-1):=Zh (by rw[HE2.out,qj hab];rfl);clear hab;go_wp2;go_quiet (fail)
     go_wp2;go_quiet (fail)
     go_wp2;go_ret;exact⟨by rw[HV.out];rfl,by obtain⟨n,hn⟩:=HN.out;exact⟨_,by rw[hn,World.drewN_drewN,World.drewN_drewN]⟩⟩
    ·by_cases V7:b<a
     ·have h1:(a !=b)=true:=by simp;omega
      have h2:decide (a<b)=false:=by simpa using hab
      have HV:Hid (zB x y=1):=Zh (by rw[HE2.out,qC V7];rfl);clear hab V7;go_wp2;go_quiet (fail)
      go_wp2;go_quiet (fail)
      go_wp2;go_ret;exact⟨by rw[HV.out];rfl,by obtain⟨n,hn⟩:=HN.out;exact⟨_,by rw[hn,World.drewN_drewN,World.drewN_drewN]⟩⟩
     ·have V8:a=b:=by omega
      have h1:(a !=b)=false:=by simp[V8]
      have HV:Hid (zB x y=zB (x.drop (k+1)) (y.drop (k+1))):=Zh (by rw[HE2.out,Qb V8];rfl);clear hab V7 V8;go_wp2;go_quiet (fail)
      go_wp2;exact⟨⟨k+1,by omega,by omega,by go_num,HV,Zh (by obtain⟨n,hn⟩:=HN.out;exact⟨_,by rw[hn,World.drewN_drewN]⟩)⟩,by simp[intOf];omega⟩
   ·have HV:Hid (zB x y=1):=Zh (by
     rw[HE.out,List.drop_eq_getElem_cons hlt,show y.drop k=[] from List.drop_eq_nil_iff.2 (by omega)];rfl)
    clear ha;go_wp2;go_ret;exact⟨by rw[HV.out];rfl,HN.out⟩
  ·by_cases zr5:k<y.length
   ·have HV:Hid (zB x y=-1):=Zh (by
     rw[HE.out,show x.drop k=[] from List.drop_eq_nil_iff.2 (by omega),List.drop_eq_getElem_cons zr5];rfl)
    go_wp2;go_ret;exact⟨by rw[HV.out];rfl,HN.out⟩
   ·have HV:Hid (zB x y=0):=Zh (by
     rw[HE.out,show x.drop k=[] from List.drop_eq_nil_iff.2 (by omega),show y.drop k=[] from List.drop_eq_nil_iff.2 (by omega)];rfl)
    go_wp2;go_ret;exact⟨by rw[HV.out];rfl,HN.out⟩
end Go.Proofs.YtpijjipngkdhdaaGreat
namespace Go.Proofs.YtpijjipngkdhdaaGreat
open La
variable {b:Int} {m:List (List Int)} {x y:List Int} {c d k n:Nat} {A X Y:Option Addr} {w w0 w1:World}
theorem VecList.unique{za:Int}{exact:Bool}{L T:List (List Int)}(h:VecList m za exact L)(h':VecList m za exact T):L=T:=by
 have hp:=(List.perm_ext_iff_of_nodup h.nodup h'.nodup).2 fun x=>(h.mem x).trans (h'.mem x).symm
 exact List.Perm.eq_of_pairwise (fun a b _ _ h1 h2=>absurd h2 (zlr m a b h1)) h.sorted h'.sorted hp
theorem vX(h:0<zZ x):zW x=x:=by unfold zW;grind
def vf(m:List (List Int))(b:Int):Nat->List Int->List (List Int)
 |0,t=>(List.range (QW m b 0 t)).map fun(j:Nat)=>(zX m b 0 t+(j:Int))::t
 |k+1,t=>(List.range (QW m b (k+1) t)).flatMap fun(j:Nat)=>vf m b k ((zX m b (k+1) t+(j:Int))::t)
theorem Vu(hr:RedOK m)(x:List Int)(k:Nat):∀t:List Int,k<m.length->t.length=m.length-1-k->0<=left (ent m) b (k+1) t->
  (x∈vf m b k t↔∃p:List Int,p.length=k+1/\x=p++t/\0<=left (ent m) b 0 x):=by
 induction k with
 |zero=>
  intro t hk ht h0;have hin:∀c,(zX m b 0 t<=c/\c<=Zb m b 0 t)↔0<=left (ent m) b 0 (c::t):=fun c=>Jt hr hk t ht h0 c
  rw[vf];simp only[List.mem_map,List.mem_range];constructor
  ·rintro⟨j,hj,rfl⟩;unfold QW at hj;exact⟨[zX m b 0 t+(j:Int)],rfl,rfl,(hin _).1 ⟨by omega,by omega⟩⟩
  ·rintro⟨p,hp,rfl,h2⟩;obtain⟨c,rfl⟩:∃c,p=[c]:=List.length_eq_one_iff.1 hp;have h3:=(hin c).2 h2;refine⟨(c-zX m b 0 t).toNat,by unfold QW;omega,?_⟩;rw[show zX m b 0 t+(((c-zX m b 0 t).toNat:Nat):Int)=c by omega];rfl
 |succ k ih=>
  intro t hk ht h0;have hin:∀c,(zX m b (k+1) t<=c/\c<=Zb m b (k+1) t)↔0<=left (ent m) b (k+1) (c::t):=fun c=>Jt hr hk t ht h0 c
  rw[vf];simp only[List.mem_flatMap,List.mem_range];constructor
  ·rintro⟨j,hj,hx⟩;have hk0:0<=left (ent m) b (k+1) ((zX m b (k+1) t+(j:Int))::t):=J2 hr t hk ht h0 (j:=j) hj;obtain⟨p,hp,rfl,h2⟩:=(ih _ (by omega) (by simp[ht];omega) hk0).1 hx;exact⟨p++[zX m b (k+1) t+(j:Int)],by simp[hp],by simp,h2⟩
  ·rintro⟨p,hp,rfl,h2⟩;obtain⟨q,c,rfl,hq⟩:=zc1 hp;have hs:=zlk hr b q 0 (c::t) (by simp[ht];omega) (by simpa using h2);rw[hq,Nat.zero_add]at hs;have hc:=(hin c).2 hs;refine⟨(c-zX m b (k+1) t).toNat,by unfold QW;omega,?_⟩;grind
theorem vV(hr:RedOK m)(hb:0<=b)(x:List Int):x∈vf m b (m.length-1) []↔x.length=m.length/\zi m x<=b:=by
 have hl:=Qf hr.small;rw[Vu hr x (m.length-1) [] (by omega) (by simp) (zbw hr hb)];constructor
 ·rintro⟨p,hp,rfl,h2⟩;have hpl:(p++[]).length=m.length:=by simp[hp];omega
  rw[Ju (ZZ hr.small) b _ hpl]at h2;exact⟨hpl,by omega⟩
 ·rintro⟨h1,h3⟩;refine⟨x,by omega,by simp,?_⟩;rw[Ju (ZZ hr.small) b _ h1];omega
def vl(p:Int×List Int):List Int:=p.1::p.2
def vb(p q:Int×List Int):Bool:=decide (zB (vl p) (vl q)<0)
theorem Vb{p q:Int×List Int}(h:vl p=vl q):p=q:=by
 obtain⟨a,x⟩:=p;obtain⟨b,y⟩:=q;simpa[vl] using h
theorem vQ{p q r:Int×List Int}(h1:vb p q=true)(h2:vb q r=true):vb p r=true:=by
 unfold vb at*
 rw[decide_eq_true_eq] at*
 exact zcE _ _ _ h1 h2
theorem Vc{p q:Int×List Int}(h1:vb p q=false)(h2:vb q p=false):p=q:=by
 unfold vb at*
 rw[decide_eq_false_iff_not] at*
 rw[Jq]at h2;exact Vb (zbr _ _ (by omega))
def vg:List (Int×List Int)->Int×List Int->Nat
 |[],_=>0
 |y::l,x=>if vb y x then vg l x+1 else 0
theorem vu:∀(l:List (Int×List Int))(x:Int×List Int)(k:Nat),(∀j y,j<k->l[j]? =some y->vb y x=true)->k<=l.length->(∀y,l[k]? =some y->vb y x=false)->vg l x=k
 |[],x,k,_,hk,_=>by simp at hk;simp[vg,hk]
 |y::l,x,0,_,_,h=>by have :=h y rfl;simp[vg,this]
 |y::l,x,k+1,h1,hk,h2=>by
  have e:=h1 0 y (by omega) rfl;rw[vg,if_pos e,vu l x k (fun j z hj hz=>h1 (j+1) z (by omega) (by simpa using hz)) (by simpa using hk) (fun z hz=>h2 z (by simpa using hz))]
def vc(l:List (Int×List Int))(x:Int×List Int):List (Int×List Int):=
 match l[vg l x]? with
 |some y=>if vb x y then l.take (vg l x)++x::l.drop (vg l x) else l
 |none=>l++[x]
theorem vW:∀(l:List (Int×List Int))(x:Int×List Int),l.Pairwise (fun p q=>vb p q=true)->(vc l x).Pairwise (fun p q=>vb p q=true)/\∀y,y∈vc l x↔y∈l∨y=x
 |[],x,_=>by simp[vc,vg]
 |y::l,x,h=>by
  by_cases VR:vb y x=true
  ·have hp:(y::l)[vg (y::l) x]? =l[vg l x]? :=by simp[vg,VR]
   have e:vc (y::l) x=y::vc l x:=by
    unfold vc;rw[hp];simp only[vg,if_pos VR];split<;>simp
    split<;>simp
   rw[List.pairwise_cons]at h;obtain⟨h1,h2⟩:=vW l x h.2;rw[e,List.pairwise_cons];refine⟨⟨fun z hz=>?_,h1⟩,fun z=>?_⟩
   ·rcases(h2 z).1 hz with hz |rfl
    ·exact h.1 z hz
    ·exact VR
   ·simp only[List.mem_cons,h2];constructor
    ·rintro(h |h |h)
     ·exact .inl (.inl h)
     ·exact .inl (.inr h)
     ·exact .inr h
    ·rintro((h |h) |h)
     ·exact .inl h
     ·exact .inr (.inl h)
     ·exact .inr (.inr h)
  ·have e0:vg (y::l) x=0:=by simp[vg,VR]
   have e:vc (y::l) x=if vb x y then x::y::l else y::l:=by
    unfold vc;rw[e0];simp
   rw[e];by_cases hxy:vb x y=true
   ·rw[if_pos hxy];refine⟨List.pairwise_cons.2 ⟨fun z hz=>?_,h⟩,fun z=>?_⟩
    ·rcases List.mem_cons.1 hz with rfl |hz
     ·exact hxy
     ·exact vQ hxy ((List.pairwise_cons.1 h).1 z hz)
    ·simp only[List.mem_cons];constructor
     ·rintro(h |h)
      ·exact .inr h
      ·exact .inl h
     ·rintro(h |h)
      ·exact .inr h
      ·exact .inl h
   ·rw[if_neg hxy];have hxe:=Vc (p:=y) (q:=x) (by simpa using VR) (by simpa using hxy);subst hxe;refine⟨h,fun z=>?_⟩;simp only[List.mem_cons];constructor
    ·exact fun h=> .inl h
    ·rintro(h |h)
     ·exact h
     ·exact .inl h
def va(m:List (List Int))(xs:List (List Int)):List (Int×List Int):=
 xs.foldl (fun l x=>if 0<zZ x then vc l (zi m x,x) else l) []
theorem vJ(m:List (List Int))(xs:List (List Int)):∀l:List (Int×List Int),l.Pairwise (fun p q=>vb p q=true)->
  (xs.foldl (fun l x=>if 0<zZ x then vc l (zi m x,x) else l) l).Pairwise (fun p q=>vb p q=true)/\∀y,y∈xs.foldl (fun l x=>if 0<zZ x then vc l (zi m x,x) else l) l↔y∈l∨∃x∈xs,0<zZ x/\y=(zi m x,x):=by
 induction xs with
 |nil=>intro l h;exact⟨h,fun y=>by simp⟩
 |cons x xs ih=>
  intro l h;simp only[List.foldl_cons];by_cases hx:0<zZ x
  ·rw[if_pos hx];obtain⟨h1,h2⟩:=vW l (zi m x,x) h;obtain⟨h3,h4⟩:=ih _ h1;refine⟨h3,fun y=>?_⟩;rw[h4,h2];simp only[List.mem_cons];constructor
   ·rintro((h |h) |⟨z,hz,a,b⟩)
    ·exact .inl h
    ·exact .inr ⟨x,.inl rfl,hx,h⟩
    ·exact .inr ⟨z,.inr hz,a,b⟩
   ·rintro(h |⟨z,(rfl |hz),a,b⟩)
    ·exact .inl (.inl h)
    ·exact .inl (.inr b)
    ·exact .inr ⟨z,hz,a,b⟩
  ·rw[if_neg hx];obtain⟨h3,h4⟩:=ih _ h;refine⟨h3,fun y=>?_⟩;rw[h4];simp only[List.mem_cons];constructor
   ·rintro(h |⟨z,hz,a,b⟩)
    ·exact .inl h
    ·exact .inr ⟨z,.inr hz,a,b⟩
   ·rintro(h |⟨z,(rfl |hz),a,b⟩)
    ·exact .inl h
    ·exact absurd a hx
    ·exact .inr ⟨z,hz,a,b⟩
theorem vF(hr:RedOK m)(hb:0<=b):VecList m b false ((va m (vf m b (m.length-1) [])).map Prod.snd)/\va m (vf m b (m.length-1) [])=((va m (vf m b (m.length-1) [])).map Prod.snd).map fun x=>(zi m x,x):=by
 obtain⟨h1,h2⟩:=vJ m (vf m b (m.length-1) []) [] List.Pairwise.nil;have hm:∀y,y∈va m (vf m b (m.length-1) [])↔∃x,(x.length=m.length/\0<zZ x/\zi m x<=b)/\y=(zi m x,x):=fun y=>by
  unfold va;rw[h2];simp only[vV hr hb];constructor
  ·rintro(h |⟨x,⟨a1,a2⟩,a3,a4⟩)
   ·simp at h
   ·exact⟨x,⟨a1,a3,a2⟩,a4⟩
  ·rintro⟨x,⟨a1,a3,a2⟩,a4⟩;exact .inr ⟨x,⟨a1,a2⟩,a3,a4⟩
 have he:∀y∈va m (vf m b (m.length-1) []),y=(zi m y.2,y.2):=fun y hy=>by
  obtain⟨x,-,rfl⟩:=(hm y).1 hy;rfl
 refine⟨⟨?_,fun x=>?_⟩,?_⟩
 ·rw[List.pairwise_map];refine List.Pairwise.imp_of_mem ?_ h1;intro p q hp hq h;unfold vb at h;rw[decide_eq_true_eq,he p hp,he q hq]at h;rw[zfo];exact h
 ·rw[List.mem_map];constructor
  ·rintro⟨y,hy,rfl⟩;obtain⟨x,⟨a1,a2,a3⟩,rfl⟩:=(hm y).1 hy;exact⟨a1,a2,a3,fun h=>by cases h⟩
  ·rintro⟨a1,a2,a3,-⟩;exact⟨(zi m x,x),(hm _).2 ⟨x,⟨a1,a2,a3⟩,rfl⟩,rfl⟩
 ·rw[List.map_map];conv=>lhs;rw[<-List.map_id (va m (vf m b (m.length-1) []))]
  exact List.map_congr_left fun y hy=>he y hy
end Go.Proofs.YtpijjipngkdhdaaGreat
namespace Go.Proofs.YtpijjipngkdhdaaGreat
open Go.RowKit
open La
variable {b:Int} {m:List (List Int)} {x y:List Int} {c d k n:Nat} {A X Y:Option Addr} {w w0 w1:World}
theorem vY(h:Ints w0 A 2 .i64 x)(h1:x.length<=1099511627776)(hb:∀a∈x,-1099511627776<=a/\a<=1099511627776)[hx:Ext w0 w]:
  Calls Tryz.prog 166 #[.slice A x.length c] w (Zj w (.bool true)):=by
 have h0:=h.ext hx;have HB:=Zh hb;clear hb h;go_enter Tryz.func166,Tryz.ntmps166;go_wp2;go_loop [4,7] (fun _ i=>∃k:Nat,k<=x.length/\i= .int .i64 k) (fun _ i=>x.length-(intOf i).toNat)
 case atStart=>exact⟨0,by omega,rfl⟩
 case round=>
  obtain⟨k,hk,rfl⟩:=hrel;by_cases hlt:k<x.length
  ·obtain⟨b1,o1,a,rfl,ha,g1,g2⟩:=h0.at_ hlt;have hab:=HB.out a (Zm ha);have d1:decide (a< -1099511627776)=false:=by simp;omega
   have d2:decide (1099511627776<a)=false:=by simp;omega
   clear ha;go_wp2;exact⟨⟨k+1,by omega,by go_num⟩,by simp[intOf];omega⟩
  ·go_wp2;go_ret;exact⟨rfl,rfl⟩
def vd(m:List (List Int))(n:Nat)(x:List Int):List Int:=m.map fun r=>zq n fun i=>r.getD i 0*x.getD i 0
theorem vn(m:List (List Int))(n:Nat)(x:List Int):(vd m n x).length=m.length:=by simp[vd]
theorem vp{i:Nat}{r:List Int}(hr:m[i]? =some r):(vd m n x).getD i 0=zq n fun j=>r.getD j 0*x.getD j 0:=by
 simp[vd,List.getD,hr]
theorem Vd{B:Option Addr}(hM:MatV w0 A m)(hX:IntsV w1 B x)(h1:1<=m.length)(h2:m.length<=16)(h3:1<=n)(h4:n<=16)(hn:AllLen m n)(hxl:x.length=n)(hk:k<=1000000000000)(hbm:∀i j,Bd k (ent m i j))(hbx:jZ k x)[hx:Ext w0 w][hy:Ext w1 w]:
  Calls Tryz.prog 174 #[.slice A m.length c,.slice B n d] w (zgy w (vd m n x)):=by
 have h0:=hM.ext hx;have hX0:=hX.ext hy;have HSH:=Zh (fun W(e:Ext w W)=>zbz (w:=W) (c:=c) h0 n h1 h2 h3 h4 hn);have HDT:Hid (∀(W0 W:World)(A1:Option Addr)(c1 i:Nat)(r:List Int),m[i]? =some r->IntsV W0 A1 r->Ext W0 W->Ext w W->Calls Tryz.prog 206 #[.slice A1 n c1,.slice B n d] W (zx W ((vd m n x).getD i 0))):=Zh (fun W0 W A1 c1 i r hr hI e1 e2=>by
  have hrl:r.length=n:=hn r (Zm hr);rw[vp hr];refine zgq hI hX0 hrl hxl h4 hk (fun j=>?_) hbx;have :=hbm i j;unfold ent at this;simp only[List.getD,hr,Option.getD_some]at this;exact this)
 have HAL:Hid (∀(i:Nat)(r:List Int),m[i]? =some r->r.length=n):=Zh (fun i r hr=>hn r (Zm hr));have HAR:Hid ((vd m n x).length=m.length):=Zh (vn m n x);unfold zgy;obtain⟨Z,hZ⟩:∃Z,Z=vd m n x:=⟨_,rfl⟩;rw[<-hZ]at HDT HAR |-
 obtain⟨zc,hrw⟩:∃zc,zc=m.length:=⟨_,rfl⟩;rw[<-hrw]at HSH HAR h1 h2 |-
 have HRW:=Zh hrw;clear hn hM hX hX0 hxl hbm hbx hZ hrw;go_enter Tryz.func174,Tryz.ntmps174;go_wp2_with (go_at_call 126;refine(HSH.out _ Zi).mono ?_;rintro e w2 ⟨rfl,hs2⟩)
 have zqX:Ext w w2:=Zi;go_loopw [9,11,28] (fun s9 _ i wr=>∃(q:Nat) (A1:Option Addr) (c1:Nat) (vs:List Value),q<=zc/\i= .int .i64 q/\s9= .slice A1 q c1/\Hid (Own wr w2.heap.size 178 2 A1 q c1 vs)/\Hid (VsOf wr vs (Z.take q))/\Ext w2 wr) (fun _ _ i _=>zc-(intOf i).toNat)
 case atStart=>exact⟨0,none,0,[],by omega,rfl,rfl,Zh (Own.nil _ _ _ _),Zh (fun i z hz=>by simp at hz),Zi⟩
 case round=>
  obtain⟨q,A1,c1,vs,hq,rfl,rfl,HO,HV,hxr⟩:=hrel;have zra:Ext w wr:=zqX.trans hxr;by_cases hlt:q<zc
  ·obtain⟨r,hr⟩:∃r,m[q]? =some r:=⟨_,Ze (by rw[<-HRW.out];exact hlt)⟩;have hrl:=HAL.out q r hr;obtain⟨b1,o1,B1,d1,rfl,g1,g2,-,-,g3⟩:=(h0.ext zra).at_ hr;rw[hrl]at g1;have HD:=Zh (fun W(e:Ext wr W)=>HDT.out wr W B1 d1 q r hr g2 e (zra.trans e));clear hr hrl g2;go_wp2_with fail
   refine(HD.out _ Zi).mono ?_;rintro e w5 ⟨g5,B5,k5,d5,rfl,hz5,hs5⟩;have hx5:Ext wr w5:=Zi;have HZ5:=Zh hz5;clear hz5;go_wp2_with (at_builtin;refine Zd _ rfl _ _ 126 rfl w2.heap.size 178 (.agg #[.bool false,.slice none 0 0]) 2 32 Tryz.underlying126 Q9 rfl (by omega) (by omega) A1 q c1 vs rfl (HO.out.ext Zi) (some ⟨w5.heap.size,0,none⟩) 1 1 [.bool g5,.slice B5 k5 d5] rfl (Arr.new w5 178 #[.bool g5,.slice B5 k5 d5]) rfl (zdp _ _ _ _) (by omega) (by have :=(hxr.trans hx5).size;simp;omega) ?_;intro A6 c6 w6 zqd hg;have HO6:=Zh zqd;have HG6:=Zh hg;have hx6:Ext w2 w6:=hg.ext Zi Zr;clear zqd hg)
   refine⟨⟨q+1,A6,c6,vs++[.bool g5,.slice B5 k5 d5],by omega,by go_num,rfl,HO6,Zh ?_,hx6⟩,by simp[intOf]<;>omega⟩;have hxa:Ext w5 (w5.alloc (.cells #[.bool g5,.slice B5 k5 d5] 178)):=Zi;have hv5:VsOf (w5.alloc (.cells #[.bool g5,.slice B5 k5 d5] 178)) (vs++[.bool g5,.slice B5 k5 d5]) (Z.take q++[Z.getD q 0]):=VsOf.snoc (HV.out.map fun hz=>(hz.ext hx5).ext hxa) (by rw[HO.out.len,List.length_take,HAR.out,Nat.min_eq_left hq]) (HZ5.out.ext hxa)
   rw[zaR (by rw[HAR.out];exact hlt)];exact hv5.grow HG6.out (by decide)
  ·obtain rfl:q=zc:=by omega
   go_wp2;go_ret2
   have h2:=HV.out;rw[List.take_of_length_le (by rw[HAR.out];exact Zr)]at h2;exact⟨A1,c1,by rw[HAR.out];rfl,h2.intsV (by rw[HO.out.len,HAR.out]) HO.out.arr (Ext.refl _),by rw[HAR.out];exact HO.out.cap.1,HO.out.cap.2,zra.toStep⟩
theorem vB(hn:n<=16)(hbm:∀i j,Bd k (ent m i j))(hbx:jZ k x):jZ (2*k+n) (vd m n x):=fun i=>by
 rw[List.getD_eq_getElem?_getD]
 cases h:m[i]? with
 |none=>simp[vd,h];exact Bd.zero _
 |some r=>
  have e:((vd m n x)[i]?).getD 0=zq n fun j=>r.getD j 0*x.getD j 0:=by
   rw[<-List.getD_eq_getElem?_getD];exact vp h
  rw[e];refine zaP (n:=n) (fun j _=>?_) n Zr;have h1:=hbm i j;unfold ent at h1;simp only[List.getD,h,Option.getD_some]at h1;have :=h1.mul (hbx j);rw[show k+k=2*k by omega]at this;exact this
theorem vC(x y:List Int):QX m x y=zq m.length fun i=>x.getD i 0*(vd m m.length y).getD i 0:=by
 unfold QX;refine Z0 fun i hi=>?_
 have hr:m[i]? =some m[i]:=Ze hi;rw[vp hr];congr 1
 refine Z0 fun j _=>?_
 unfold ent;simp[List.getD,hr]
theorem vr(x:List Int)(k:Nat)(a:Int)(h:x[k]? =some a):zZ (x.take (k+1))=if zZ (x.take k)=0 then a else zZ (x.take k):=by
 induction x generalizing k with
 |nil=>simp at h
 |cons y x ih=>
  cases k with
  |zero=>
   simp at h;subst h;simp only[List.take_succ_cons,List.take_zero,zZ];by_cases h:y=0
   ·simp[h]
   ·simp[h]
  |succ k=>
   simp only[List.getElem?_cons_succ]at h;have :=ih k h;simp only[List.take_succ_cons,zZ];by_cases hy:y=0
   ·simp only[hy,if_true];exact this
   ·simp[hy]
def ve(a:Int):Int:=if a<0 then-1 else if a=0 then 0 else 1
theorem Ve(x:List Int)(h:zZ x≠0):x.map (fun c=>ve (zZ x)*c)=zW x:=by
 unfold zW ve;by_cases h1:zZ x<0
 ·rw[if_pos h1,if_pos h1];exact List.map_congr_left fun c _=>by omega
 ·rw[if_neg h1,if_neg h1,if_neg h];simp
def vK(w:World)(x:List Int)(e:Ending)(w':World):Prop:=
 (zZ x=0/\e= .returned (.tuple #[.slice none 0 0,.bool false])/\Step w w')∨
 (zZ x≠0/\∃B d,e= .returned (.tuple #[.slice B x.length d,.bool true])/\Ints w' B 2 .i64 (zW x)/\x.length<=d/\d<=9223372036854775807/\Step w w')
theorem vq(a:Int):(a<0/\ve a=-1)∨(a=0/\ve a=0)∨(0<a/\ve a=1):=by
 unfold ve;split
 ·exact .inl ⟨by assumption,rfl⟩
 ·split
  ·exact .inr (.inl ⟨by assumption,rfl⟩)
  ·exact .inr (.inr ⟨by omega,rfl⟩)
theorem vG(x:List Int)(s:Int)(q:Nat)(a:Int)(h:x[q]? =some a):((x.take (q+1)).map fun a=>Value.int .i64 (s*a))=((x.take q).map fun a=>Value.int .i64 (s*a))++[.int .i64 (s*a)]:=by
 rw[List.take_add_one,h];simp
theorem Vf(h:Ints w0 A 2 .i64 x)(h1:x.length<=1000)(hb:∀a∈x,-1099511627776<=a/\a<=1099511627776)[hx:Ext w0 w]:
  Calls Tryz.prog 86 #[.slice A x.length c] w (vK w x):=by
 have h0:=h.ext hx;have HI:=Zh (fun W(e:Ext w0 W)=>vY (w:=W) (c:=c) h (by omega) hb);have HB:=Zh hb;unfold vK;obtain⟨n,hn⟩:∃n,n=x.length:=⟨_,rfl⟩;rw[<-hn]at HI h1 |-
 have HL:=Zh hn;clear hb h hn;go_enter Tryz.func86,Tryz.ntmps86;go_wp2_with (go_at_call 166;refine(HI.out _ Zi).mono ?_;rintro e w1 ⟨rfl,rfl⟩)
 go_loop [4,6,15] (fun s _ i=>∃k:Nat,k<=n/\i= .int .i64 k/\s= .int .i64 (ve (zZ (x.take k)))) (fun _ _ i=>n-(intOf i).toNat)
 case atStart=>exact⟨0,by omega,rfl,rfl⟩
 case round=>
  obtain⟨k,hk,rfl,rfl⟩:=hrel;by_cases hlt:k<n
  ·have hlx:k<x.length:=by rw[<-HL.out];exact hlt
   obtain⟨b1,o1,a,rfl,ha,g1,g2⟩:=h0.at_ hlx;have zq4:=vr x k a ha;have hs:=vq (zZ (x.take k));have HN:Hid (ve (zZ (x.take (k+1)))=if ve (zZ (x.take k))=0 then ve a else ve (zZ (x.take k))):=Zh (by
    rw[zq4];by_cases h:zZ (x.take k)=0
    ·rw[if_pos h,if_pos (by omega)]
    ·rw[if_neg h,if_neg (by omega)])
   clear zq4 hs ha;generalize ve (zZ (x.take k))=s at*
   rcases vq a with ⟨ha,hsa⟩ |⟨ha,hsa⟩ |⟨ha,hsa⟩
   ·have e1:(a !=0)=true:=by simp;omega
    have e2:decide (a<0)=true:=by simpa using ha
    by_cases hs:s=0
    ·subst hs;have HN2:Hid (ve (zZ (x.take (k+1)))=-1):=Zh (by rw[HN.out,if_pos rfl,hsa]);clear ha hsa;go_wp2;exact⟨⟨k+1,by omega,by go_num,by rw[HN2.out]⟩,by simp[intOf];omega⟩
    ·have HN2:Hid (ve (zZ (x.take (k+1)))=s):=Zh (by rw[HN.out,if_neg hs]);have e3:(s==0)=false:=by simpa using hs
     clear ha hsa hs;go_wp2;exact⟨⟨k+1,by omega,by go_num,by rw[HN2.out]⟩,by simp[intOf];omega⟩
   ·subst ha;by_cases hs:s=0
    ·subst hs;have HN2:Hid (ve (zZ (x.take (k+1)))=0):=Zh (by rw[HN.out,if_pos rfl,hsa]);clear hsa;go_wp2;exact⟨⟨k+1,by omega,by go_num,by rw[HN2.out]⟩,by simp[intOf];omega⟩
    ·have HN2:Hid (ve (zZ (x.take (k+1)))=s):=Zh (by rw[HN.out,if_neg hs]);have e3:(s==0)=false:=by simpa using hs
     clear hsa hs;go_wp2;exact⟨⟨k+1,by omega,by go_num,by rw[HN2.out]⟩,by simp[intOf];omega⟩
   ·have e1:(a !=0)=true:=by simp;omega
    have e2:decide (a<0)=false:=by simp;omega
    by_cases hs:s=0
    ·subst hs;have HN2:Hid (ve (zZ (x.take (k+1)))=1):=Zh (by rw[HN.out,if_pos rfl,hsa]);clear ha hsa;go_wp2;exact⟨⟨k+1,by omega,by go_num,by rw[HN2.out]⟩,by simp[intOf];omega⟩
    ·have HN2:Hid (ve (zZ (x.take (k+1)))=s):=Zh (by rw[HN.out,if_neg hs]);have e3:(s==0)=false:=by simpa using hs
     clear ha hsa hs;go_wp2;exact⟨⟨k+1,by omega,by go_num,by rw[HN2.out]⟩,by simp[intOf];omega⟩
  ·have htk:x.take k=x:=List.take_of_length_le (by have :=HL.out;omega);rw[htk];have hs:=vq (zZ x);clear htk;by_cases hz:zZ x=0
   ·have hsz:ve (zZ x)=0:=by omega
    rw[hsz];have HZ:=Zh hz;clear hs hsz hz;go_wp2;go_ret2
    exact .inl ⟨HZ.out,rfl,Step.of _ _⟩
   ·have HC:=Zh (Ve x hz);have HZ:=Zh hz;have e3:(ve (zZ x)==0)=false:=by simp;omega
    have hs2:ve (zZ x)=-1∨ve (zZ x)=1:=by omega
    clear hs hz;generalize ve (zZ x)=s at*
    go_wp2;go_loopw [7,9,32] (fun s7 _ i wr=>∃(q:Nat) (A1:Option Addr) (c1:Nat),q<=n/\i= .int .i64 q/\s7= .slice A1 q c1/\Hid (Own wr w.heap.size 2 1 A1 q c1 ((x.take q).map fun a=>Value.int .i64 (s*a)))/\Ext w wr) (fun _ _ i _=>n-(intOf i).toNat)
    case atStart=>exact⟨0,none,0,by omega,rfl,rfl,Zh (Own.nil _ _ _ _),Zi⟩
    case round=>
     obtain⟨q,A1,c1,hq,rfl,rfl,HO,hxr⟩:=hrel;by_cases zqj:q<n
     ·have hlx:q<x.length:=by rw[<-HL.out];exact zqj
      obtain⟨b1,o1,a,rfl,ha,g1,g2⟩:=(h0.ext hxr).at_ hlx;have hab:=HB.out a (Zm ha);have hsa:-1099511627776<=s*a/\s*a<=1099511627776:=by rcases hs2 with rfl |rfl<;>omega
      have HT:=Zh (vG x s q a ha);obtain⟨p,hp⟩:∃p,s*a=p:=⟨_,rfl⟩;rw[hp]at hsa HT;have hpw:IntKind.i64.wrap p=p:=IntWalk.i64_in _ (by omega);clear ha hs2;go_wp2_with (at_builtin;refine Zd _ rfl _ _ 31 rfl w.heap.size 2 (.int .i64 0) 1 8 Tryz.underlying31 qF rfl (by omega) (by omega) A1 q c1 ((x.take q).map fun a=>Value.int .i64 (s*a)) rfl (HO.out.ext Zi) (some ⟨wr.heap.size,0,none⟩) 1 1 [.int .i64 p] rfl (Arr.new wr 2 #[.int .i64 p]) rfl (J5 _) (by omega) (by have :=hxr.size;simp;omega) ?_;intro A6 c6 w6 zqd hg;have HO6:=Zh zqd;have hx6:Ext w w6:=hg.ext Zi Zr;clear zqd hg)
      exact⟨⟨q+1,A6,c6,by omega,by go_num,rfl,Zh (by rw[HT.out];exact HO6.out),hx6⟩,by simp[intOf]<;>omega⟩
     ·obtain rfl:q=n:=by omega
      go_wp2;go_ret2
      have h2:=HO.out;rw[List.take_of_length_le (by rw[<-HL.out];exact Zr)]at h2;refine .inr ⟨HZ.out,A1,c1,rfl,?_,h2.cap.1,h2.cap.2,hxr.toStep⟩;have h3:=h2.arr;have e:(x.map fun a=>Value.int .i64 (s*a))=(zW x).map (Value.int .i64):=by rw[<-HC.out,List.map_map];rfl
      rw[e]at h3;exact h3
theorem vL{a:Int}(hX:Ints w0 X 2 .i64 x)(hY:Ints w1 Y 2 .i64 y)(hx1:x.length<=1099511627776)(hy1:y.length<=1099511627776)[hx:Ext w0 w][hy:Ext w1 w]:
  Calls Tryz.prog 167 #[.agg #[.int .i64 a,.slice X x.length c],.agg #[.int .i64 b,.slice Y y.length d]] w (zz w (.bool (vb (a,x) (b,y)))):=by
 have ym:=hX.ext hx;have yn:=hY.ext hy;have HC:=Zh (fun W(e:Ext w W)=>vi (w0:=w) (w:=W) (c:=c) (d:=d) ym yn hx1 hy1);clear hX hY ym yn;rcases Int.lt_trichotomy a b with h |h |h
 ·have HV:Hid (vb (a,x) (b,y)=true):=Zh (by simp[vb,vl,zB,qj h]);have d1:decide (a<b)=true:=by simpa using h
  rw[HV.out];clear h;go_enter Tryz.func167,Tryz.ntmps167;go_wp2_with fail
  go_ret;exact⟨rfl,Step.of _ _⟩
 ·subst h;have HV:Hid (vb (a,x) (a,y)=decide (zB x y<0)):=Zh (by simp[vb,vl,zB,Qb]);rw[HV.out];have d1:decide (a<a)=false:=by simp
  have d2:(a==a)=true:=by simp
  go_enter Tryz.func167,Tryz.ntmps167;go_wp2_with (go_at_call 42;refine(HC.out _ Zi).mono ?_;rintro e w3 ⟨rfl,nq,rfl⟩)
  go_ret;exact⟨rfl,Step.of _ _⟩
 ·have HV:Hid (vb (a,x) (b,y)=false):=Zh (by simp[vb,vl,zB,qC h]);have d1:decide (a<b)=false:=by simp;omega
  have d2:(a==b)=false:=by simp;omega
  rw[HV.out];clear h;go_enter Tryz.func167,Tryz.ntmps167;go_wp2_with fail
  go_ret;exact⟨rfl,Step.of _ _⟩
end Go.Proofs.YtpijjipngkdhdaaGreat


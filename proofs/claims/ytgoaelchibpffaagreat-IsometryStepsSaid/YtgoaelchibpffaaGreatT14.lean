import Derived.Test.YtgoaelchibpffaaGreatT13
import Derived.Deep.LoopGhost
import Derived.BigRegion
set_option maxHeartbeats 8000000
set_option linter.unusedVariables false
set_option linter.unusedSimpArgs false
namespace Go.Proofs.YtgoaelchibpffaaGreat
open Go.RowKit
open List (getElem?_append_right length_map getElem?_append_left mem_append ext_getElem?)
variable {na:Bool} {D x y z zd:Int} {m:List (List Int)} {zs:List Int} {vs:List Value} {b c d g i j k lo n p r ze:Nat} {F G:Nat->Nat->Int} {A B:Option Addr} {w w' w0 w1:World}
def RetOwnI(w:World)(n:Nat)(a:List (List Int))(e:Ending)(w':World):Prop:=∃g hs c,e= .returned (.slice (some ⟨g,0,none⟩) a.length c)/\OwnI w' w.heap.size g n hs a/\a.length<=c/\c<=9223372036854775807/\Step w w'
def RetOwnIB(w:World)(n:Nat)(a:List (List Int))(e:Ending)(w':World):Prop:=∃g hs c,e= .returned (.tuple #[.slice (some ⟨g,0,none⟩) a.length c,.bool true])/\OwnI w' w.heap.size g n hs a/\a.length<=c/\c<=9223372036854775807/\Step w w'
theorem RetOwnI.mat{a:List (List Int)}{e:Ending}(h:RetOwnI w n a e w'):zaZ w a e w':=by
 obtain⟨g,hs,c,rfl,h1,h2,h3,h4⟩:=h;exact⟨_,c,rfl,h1.mat,h2,h3,h4⟩
theorem RetOwnIB.mat{a:List (List Int)}{e:Ending}(h:RetOwnIB w n a e w'):zfy w a true e w':=by
 obtain⟨g,hs,c,rfl,h1,h2,h3,h4⟩:=h;exact⟨_,c,rfl,h1.mat,h2,h3,h4⟩
theorem RowI.zeros(w:World)(n:Nat):RowI (w.alloc (.cells (zH #[.bool false,.slice none 0 0] (n*2)) 102)) w.heap.size (List.replicate n 0):=by
 refine⟨_,VRow.new w _ _,by rw[JP];simp,fun i z hz=>?_⟩;have hi:i<n:=by have:=(Zg.1 hz).1;simpa using this
 have hz0:z=0:=List.eq_of_mem_replicate (Zm hz);subst hz0;refine⟨false,none,0,0,?_,?_,IntV.zero _ none 0 aa⟩
 ·rw[zbT _ _ _ aa af];simp
 ·rw[zbT _ _ _ aa af];simp
structure PartI(w:World)(lo g n zc:Nat)(hs:List (Nat×Nat))(a:List (List Int)):Prop where
 head:VRow w g 95 (hs.map (z8 n)++List.replicate (zc-hs.length) (.slice none 0 0))
 glo:lo<=g
 le:hs.length<=zc
 len:hs.length=a.length
 dist:∀(i j:Nat)(p q:Nat×Nat),hs[i]? =some p->hs[j]? =some q->i≠j->p.1≠q.1
 new:∀h∈hs,lo<=h.1/\n<=h.2/\h.2<=9223372036854775807
 all:AllLen a n
 row:∀(i:Nat)(h:Nat×Nat)(r:List Int),hs[i]? =some h->a[i]? =some r->RowI w h.1 r
section
variable {w w':World} {lo g n zc:Nat} {hs:List (Nat×Nat)} {a:List (List Int)}
theorem PartI.start(w:World)(lo n zc:Nat)(h:lo<=w.heap.size):PartI (w.alloc (.cells (zH #[.slice none 0 0] (zc*1)) 95)) lo w.heap.size n zc [] []:=by
 refine⟨?_,h,af,rfl,fun i j p q hp=>by simp at hp,fun p hp=>by simp at hp,fun r hr=>by simp at hr,fun i p r hp=>by simp at hp⟩;have:=VRow.new w 95 (zH #[.slice none 0 0] (zc*1));rw[Qo,Nat.mul_one]at this;simpa[Qo] using this
theorem PartI.done(h:PartI w lo g n zc hs a)(hl:hs.length=zc):OwnI w lo g n hs a:=by
 have h1:=h.head;rw[hl,Nat.sub_self]at h1;simp only[List.replicate_zero,List.append_nil]at h1;exact⟨h1,h.glo,h.len,h.dist,h.new,h.all,h.row⟩
theorem PartI.ext(h:PartI w lo g n zc hs a)(hx:Ext w w'):PartI w' lo g n zc hs a:=
 ⟨h.head.ext hx,h.glo,h.le,h.len,h.dist,h.new,h.all,fun i p r hp hr=>(h.row i p r hp hr).ext hx⟩
theorem PartI.cells(h:PartI w lo g n zc hs a)(hk:hs.length<zc):w.cell? ⟨g,hs.length,none⟩=some (.slice none 0 0)/\w.frozen? ⟨g,hs.length,none⟩=false/\g<w.heap.size:=by
 refine⟨h.head.cell ?_,h.head.frozen _,h.head.lt⟩;rw[getElem?_append_right af,length_map,Nat.sub_self,List.getElem?_replicate,if_pos aa]
theorem PartI.put(h:PartI w lo g n zc hs a)(hk:hs.length<zc){r:List Int}(hr:RowI w b r)(hrl:r.length=n)(hb:lo<=b)(hc1:n<=c)(hc2:c<=9223372036854775807)(hd:∀p∈hs,p.1≠b):
  PartI (w.setCell ⟨g,hs.length,none⟩ (.slice (some ⟨b,0,none⟩) n c)) lo g n zc (hs++[(b,c)]) (a++[r]):=by
 have zsJ:Oth 95 w (w.setCell ⟨g,hs.length,none⟩ (.slice (some ⟨b,0,none⟩) n c)):=Oth.set (p:=⟨g,hs.length,none⟩) h.head _;refine⟨?_,h.glo,by simp;omega,by simp[h.len],?_,?_,?_,?_⟩
 ·have h1:=h.head.set hs.length (.slice (some ⟨b,0,none⟩) n c);have e:(hs.map (z8 n)++List.replicate (zc-hs.length) (Value.slice none 0 0)).set hs.length (.slice (some ⟨b,0,none⟩) n c)=(hs++[(b,c)]).map (z8 n)++List.replicate (zc-(hs++[(b,c)]).length) (.slice none 0 0):=by
   obtain⟨t,ht⟩:∃t,zc-hs.length=t+1:=⟨zc-hs.length-1,aa⟩;have ht2:zc-(hs++[(b,c)]).length=t:=by simp;omega
   rw[ht,ht2,List.set_append_right _ _ af];simp[List.replicate_succ,z8]
  rw[e]at h1;exact h1
 ·intro i j p q hp hq hij;rcases Zl i hs.length with hi|hi
  ·rw[getElem?_append_left hi]at hp;rcases Zl j hs.length with hj|hj
   ·rw[getElem?_append_left hj]at hq;exact h.dist i j p q hp hq hij
   ·rw[getElem?_append_right hj]at hq;have:q=(b,c):=by
     have:=Zm hq;simpa using this
    subst this;exact hd p (Zm hp)
  ·rw[getElem?_append_right hi]at hp;have hi':i=hs.length:=by have:=(Zg.1 hp).1;simp at this;omega
   have:p=(b,c):=by
    have:=Zm hp;simpa using this
   subst this;rcases Zl j hs.length with hj|hj
   ·rw[getElem?_append_left hj]at hq;exact fun e=>hd q (Zm hq) e.symm
   ·rw[getElem?_append_right hj]at hq;have hj':j=hs.length:=by have:=(Zg.1 hq).1;simp at this;omega
    omega
 ·intro p hp;rcases mem_append.1 hp with hp|hp
  ·exact h.new p hp
  ·have:p=(b,c):=by simpa using hp
   subst this;exact⟨hb,hc1,hc2⟩
 ·intro x hx;rcases mem_append.1 hx with hx|hx
  ·exact h.all x hx
  ·have:x=r:=by simpa using hx
   subst this;exact hrl
 ·intro i p x hp hx;have hl:=h.len;rcases Zl i hs.length with hi|hi
  ·rw[getElem?_append_left hi]at hp;rw[getElem?_append_left aa]at hx;exact(h.row i p x hp hx).oth zsJ ac ac
  ·rw[getElem?_append_right hi]at hp;rw[getElem?_append_right aa]at hx;have e1:p=(b,c):=by
    have:=Zm hp;simpa using this
   have e2:x=r:=by
    have:=Zm hx;simpa using this
   subst e1 e2;exact hr.oth zsJ ac ac
theorem PartI.old(h:PartI w lo g n zc hs a):∀p∈hs,p.1<w.heap.size:=fun p hp=>by
 obtain⟨i,hi⟩:=List.getElem?_of_mem hp;obtain⟨r,hr⟩:∃r,a[i]? =some r:=⟨_,Ze (by have:=(Zg.1 hi).1;rw[<-h.len];exact this)⟩;exact(h.row i p r hi hr).lt
end
def Qw(F:Nat->Nat->Int)(k q:Nat):Nat->Nat->Int:=fun x y=>if x<k∨(x=k/\y<q) then F x y else 0
def Q6(F:Nat->Nat->Int)(k q:Nat):Nat->Nat->Int:=fun x y=>if y<k∨(y=k/\x<q) then F x y else 0
theorem ZC(h:∀i j,i<r->j<c->F i j=G i j):tab F r c=tab G r c:=by
 unfold tab;refine List.map_congr_left fun i hi=>List.map_congr_left fun j hj=>h i j (by simpa using hi) (by simpa using hj)
theorem Qe(hi:i<r)(hj:j<c):zI (tab G r c) i j z=tab (fun x y=>if x=i/\y=j then z else G x y) r c:=by
 have hl:(zI (tab G r c) i j z).length=r:=by rw[j6,zr]
 have zsr:(tab G r c).getD i []=(List.range c).map fun y=>G i y:=by simp[List.getD,QT G r c i hi]
 apply ext_getElem?;intro x;rcases Zl x r with hx|hx
 ·rw[QT _ _ _ _ hx];unfold zI;by_cases e:x=i
  ·subst e;rw[List.getElem?_set_self (by rw[zr];exact hx),zsr];congr 1
   apply ext_getElem?;intro y;by_cases e2:y=j
   ·subst e2;rw[List.getElem?_set_self (by simpa using hj)];simp[hj]
   ·rw[List.getElem?_set_ne aa];rcases Zl y c with hy|hy
    ·simp[hy,e2]
    ·rw[List.getElem?_eq_none (by simpa using hy),List.getElem?_eq_none (by simpa using hy)]
  ·rw[List.getElem?_set_ne aa,QT _ _ _ _ hx];simp[e]
 ·rw[List.getElem?_eq_none aa,List.getElem?_eq_none (by rw[zr];exact hx)]
theorem zhf(hi:i<r)(hj:j<c):zI (tab (Qw F i j) r c) i j (F i j)=tab (Qw F i (j+1)) r c:=by
 rw[Qe hi hj];refine ZC fun x y _ _=>?_
 unfold Qw;by_cases h:x=i/\y=j
 ·rw[if_pos h,if_pos aa];obtain⟨rfl,rfl⟩:=h;rfl
 ·rw[if_neg h];by_cases h2:x<i∨x=i/\y<j
  ·rw[if_pos h2,if_pos aa]
  ·rw[if_neg h2,if_neg aa]
theorem zhg(F:Nat->Nat->Int)(r c i:Nat):tab (Qw F i c) r c=tab (Qw F (i+1) 0) r c:=
 ZC fun x y _ hy=>by
  unfold Qw;by_cases h:x<i∨x=i/\y<c
  ·rw[if_pos h,if_pos aa]
  ·rw[if_neg h,if_neg aa]
theorem zhh(F:Nat->Nat->Int)(r c:Nat):tab (Qw F r 0) r c=tab F r c:=
 ZC fun x y hx _=>by unfold Qw;rw[if_pos (.inl hx)]
theorem zhi(F:Nat->Nat->Int)(r c:Nat):tab (Qw F 0 0) r c=tab (fun _ _=>0) r c:=
 ZC fun x y _ _=>by unfold Qw;rw[if_neg aa]
theorem znz(hi:i<r)(hj:j<c):zI (tab (Q6 F j i) r c) i j (F i j)=tab (Q6 F j (i+1)) r c:=by
 rw[Qe hi hj];refine ZC fun x y _ _=>?_
 unfold Q6;by_cases h:x=i/\y=j
 ·rw[if_pos h,if_pos aa];obtain⟨rfl,rfl⟩:=h;rfl
 ·rw[if_neg h];by_cases h2:y<j∨y=j/\x<i
  ·rw[if_pos h2,if_pos aa]
  ·rw[if_neg h2,if_neg aa]
theorem znA(F:Nat->Nat->Int)(r c j:Nat):tab (Q6 F j r) r c=tab (Q6 F (j+1) 0) r c:=
 ZC fun x y hx _=>by
  unfold Q6;by_cases h:y<j∨y=j/\x<r
  ·rw[if_pos h,if_pos aa]
  ·rw[if_neg h,if_neg aa]
theorem znB(F:Nat->Nat->Int)(r c:Nat):tab (Q6 F c 0) r c=tab F r c:=
 ZC fun x y _ hy=>by unfold Q6;rw[if_pos (.inl hy)]
theorem znC(F:Nat->Nat->Int)(r c:Nat):tab (Q6 F 0 0) r c=tab (fun _ _=>0) r c:=
 ZC fun x y _ _=>by unfold Q6;rw[if_neg aa]
theorem zhj(zc cols:Nat)(z:Int):tab (fun _ _=>z) zc cols=List.replicate zc (List.replicate cols z):=by
 unfold tab;apply ext_getElem?;intro i;rcases Zl i zc with hi|hi
 ·simp only[List.getElem?_map,List.getElem?_range hi,Option.map_some,List.getElem?_replicate,if_pos hi];congr 1
  apply ext_getElem?;intro j;rcases Zl j cols with hj|hj
  ·simp[hj]
  ·rw[List.getElem?_eq_none (by simpa using hj),List.getElem?_eq_none (by simpa using hj)]
 ·rw[List.getElem?_eq_none (by simpa using hi),List.getElem?_eq_none (by simpa using hi)]
set_option maxRecDepth 10000 in
theorem zcj(zc cols:Nat)(h1':zc<=1000000)(h2:cols<=1000000):
  Cq 113 #[.int .i64 zc,.int .i64 cols] w (RetOwnI w cols (tab (fun _ _=>0) zc cols)):=by
 have hmk:=ZH (P:=Tryz.prog) Tryz.underlying48 zad aa (zc:Int) aa aa;have zs0:=ZH (P:=Tryz.prog) Tryz.underlying95 j3 aa (cols:Int) aa aa;go_enter Tryz.func113,Tryz.ntmps113;go_wp2;go_loopw [6,11] (fun _ i wr=>∃(k:Nat) (hs:List (Nat×Nat)),k<=zc/\i= .int .i64 k/\Hid (hs.length=k)/\Hid (PartI wr w.heap.size w.heap.size cols zc hs (List.replicate k (List.replicate cols 0)))/\Ext w wr) (fun _ i _=>zc-(intOf i).toNat)
 case atStart=>exact⟨0,[],aa,rfl,Zh rfl,Zh (by simpa[Value.cells] using PartI.start w w.heap.size cols zc Zr),Zi⟩
 case round=>
  obtain⟨k,hs,hk,rfl,HL,HP,hxr⟩:=hrel;by_cases hlt:k<zc
  ·have hc:=HP.out.cells (by rw[HL.out];exact hlt);rw[HL.out]at hc;obtain⟨c1,c2,c3⟩:=hc;go_wp2;refine⟨⟨k+1,hs++[(wr.heap.size,cols)],aa,by go_num,Zh (by simp[HL.out]),Zh ?_,?_⟩,by simp[intOf]<;>omega⟩
   ·have zs5:=HP.out.old;have h1:=(HP.out.ext (Zi:Ext wr (wr.alloc (.cells (zH #[.bool false,.slice none 0 0] (cols*2)) 102)))).put (by rw[HL.out];exact hlt) (RowI.zeros wr cols) af hxr.size Zr aa (fun p hp=>Nat.ne_of_lt (zs5 p hp));rw[HL.out]at h1;rw[List.replicate_succ' (n:=k)];rw[World.setCell_alloc_past _ _ _ _ c3]at h1;simpa[Value.cells] using h1
   ·exact Zi
  ·obtain rfl:k=zc:=aa
   go_wp2;go_ret;have h1:=HP.out.done HL.out;rw[<-zhj]at h1;exact⟨w.heap.size,hs,k,by rw[zr];rfl,h1,by rw[zr];omega,aa,hxr.toStep⟩
theorem zck(h:MatV w0 A m)(n:Nat)(h1:1<=m.length)(h2:m.length<=16)(h3:1<=n)(h4:n<=16)(hn:AllLen m n)[hx:Ext w0 w]:
  Cq 59 #[.slice A m.length c] w (zA w (.tuple #[.int .i64 m.length,.int .i64 n,.bool true])):=by
 have h0:=h.ext hx;have hg:∀(i:Nat)(r:List Int),m[i]? =some r->r.length=n:=fun i r hr=>hn r (Zm hr)
 obtain⟨b,o,B,c0,rfl,hc0,-,-,-,hb⟩:=h0.at_ (i:=0) (r:=m[0]) af;rw[hg 0 m[0] af]at hc0;simp only[Nat.add_zero]at hc0;have HG:=Zh hg;clear hg hn;have hd1:decide ((m.length:Int)<1)=false:=by simp;omega
 have hd2:decide ((16:Int)<(m.length:Int))=false:=by simp;omega
 have hd3:decide ((n:Int)<1)=false:=by simp;omega
 have hd4:decide ((16:Int)<(n:Int))=false:=by simp;omega
 go_enter Tryz.func59,Tryz.ntmps59;go_wp2;go_loop [6,17] (fun _ i=>∃k:Nat,k<=m.length/\i= .int .i64 k) (fun _ i=>m.length-(intOf i).toNat)
 case atStart=>exact⟨0,aa,rfl⟩
 case round=>
  obtain⟨k,hk,rfl⟩:=hrel;by_cases hlt:k<m.length
  ·obtain⟨b',o',B',c',hh,hc,-,-,-,-⟩:=h0.at_ (i:=k) (r:=m[k]) (by simp[hlt]);injection hh with hh
   injection hh with e1 e2
   subst e1 e2;rw[HG.out k m[k] (by simp[hlt])]at hc;go_wp2;exact⟨⟨k+1,aa,by go_num⟩,by simp[intOf]<;>omega⟩
  ·go_wp2;go_quiet (fail)
   go_wp2;go_ret3
   exact⟨rfl,Step.of _ _⟩
theorem zhk(h:MatV w0 A m)(h1:1<=m.length)(h2:m.length<=16)(hn:AllLen m m.length)[hx:Ext w0 w]:
  Cq 49 #[.slice A m.length c] w (zA w (.tuple #[.int .i64 m.length,.bool true])):=by
 go_enter Tryz.func49,Tryz.ntmps49;go_wp2_with (go_at_call 59;refine(zck h m.length h1 h2 h1 h2 hn).mono ?_;rintro e w1 ⟨rfl,hs1⟩)
 go_ret2
 exact⟨rfl,Step.of _ _⟩
theorem OwnI.gne{hs:List (Nat×Nat)}{a:List (List Int)}(h:OwnI w lo g n hs a)(hp:hs[i]? =some (b,c))(hi:i<a.length):g≠b:=fun e=>by
 obtain⟨r,hr⟩:∃r,a[i]? =some r:=⟨_,Ze hi⟩;obtain⟨cs,hcs⟩:=(h.row i _ r hp hr).heap;have h1:=h.head;unfold VRow at h1;rw[e,hcs]at h1;injection h1 with h1
 injection h1 with _ h1
 exact absurd h1 ac
theorem OwnI.hdrX{hs:List (Nat×Nat)}{a:List (List Int)}(h:OwnI w lo g n hs a)(hp:hs[i]? =some (b,c))(hi:i<a.length)(W:World)(hx:Ext w W):
  W.cell? ⟨g,i,none⟩=some (.slice (some ⟨b,0,none⟩) n c)/\∀(x y:Nat)(u v:Value),((W.setCell ⟨b,x,none⟩ u).setCell ⟨b,y,none⟩ v).cell? ⟨g,i,none⟩=some (.slice (some ⟨b,0,none⟩) n c):=by
 have hv:(hs.map (z8 n))[i]? =some (.slice (some ⟨b,0,none⟩) n c):=by simp[hp,z8]
 have hg:=h.gne hp hi;refine⟨(h.head.ext hx).cell hv,fun x y u v=>?_⟩;exact(((h.head.ext hx).far (p:=⟨b,x,none⟩) hg u).far (p:=⟨b,y,none⟩) hg v).cell hv
theorem OwnI.lo_row{hs:List (Nat×Nat)}{a:List (List Int)}(h:OwnI w lo g n hs a)(hp:hs[i]? =some (b,c)):lo<=b:=(h.new _ (Zm hp)).1
theorem znD(h:MatA w0 A m)(n:Nat)(h1:1<=m.length)(h2:m.length<=16)(h3:1<=n)(h4:n<=16)(hn:AllLen m n)(h64:qf m)[hx:Ext w0 w]:
  Cq 55 #[.slice A m.length c] w (RetOwnIB w n m):=by
 have h0:=h.ext hx;have hg:∀(i:Nat)(r:List Int),m[i]? =some r->r.length=n:=fun i r hr=>hn r (Zm hr)
 have hte:=Jl m n hn;obtain⟨b,o,B,c0,rfl,hc0,-,-,-,hb⟩:=h0.at_ (i:=0) (r:=m[0]) af;rw[hg 0 m[0] af]at hc0;simp only[Nat.add_zero]at hc0;have HG:=Zh hg;have HT:=Zh hte;have H64:=Zh h64;clear hg hn hte h64;obtain⟨F,hF⟩:∃F:Nat->Nat->Int,F=fun i j=>(m.getD i []).getD j 0:=⟨_,rfl⟩
 rw[<-hF]at HT;have HF:=Zh hF;clear hF;have hd1:decide ((m.length:Int)<1)=false:=by simp;omega
 have hd2:decide ((16:Int)<(m.length:Int))=false:=by simp;omega
 have hd3:decide ((n:Int)<1)=false:=by simp;omega
 have hd4:decide ((16:Int)<(n:Int))=false:=by simp;omega
 go_enter Tryz.func55,Tryz.ntmps55;go_wp2;go_loop [5,19] (fun _ i=>∃k:Nat,k<=m.length/\i= .int .i64 k) (fun _ i=>m.length-(intOf i).toNat)
 case atStart=>exact⟨0,aa,rfl⟩
 case round=>
  obtain⟨k,hk,rfl⟩:=hrel;by_cases hlt:k<m.length
  ·obtain⟨b',o',B',c',hh,hc,-,-,-,-⟩:=h0.at_ (i:=k) (r:=m[k]) (by simp[hlt]);injection hh with hh
   injection hh with e1 e2
   subst e1 e2;rw[HG.out k m[k] (by simp[hlt])]at hc;go_wp2;exact⟨⟨k+1,aa,by go_num⟩,by simp[intOf]<;>omega⟩
  ·go_wp2_with (go_at_call 113;refine(zcj m.length n aa aa).mono ?_;rintro e w2 ⟨g,hs,cz,rfl,hO,zsL,zs3,hs2⟩;rw[zr]at zsL|-)
   have HO:=Zh hO;clear hO;go_loopw [7,8,50] (fun _ _ i wr=>∃k:Nat,k<=m.length/\i= .int .i64 k/\Hid (OwnI wr w.heap.size g n hs (tab (Qw F k 0) m.length n))/\Ext w wr) (fun _ _ i _=>m.length-(intOf i).toNat)
   case atStart=>exact⟨0,aa,rfl,Zh (by rw[zhi];exact HO.out),Zi⟩
   case round=>
    obtain⟨k,hk,rfl,HO1,hxr⟩:=hrel;obtain⟨wo,rfl⟩:∃wo:World,wo=wr:=⟨_,rfl⟩;by_cases hlt:k<m.length
    ·obtain⟨b',o',B',c',hh,hc,hI,-,-,hb'⟩:=(h0.ext hxr).at_ (i:=k) (r:=m[k]) (by simp[hlt]);injection hh with hh
     injection hh with e1 e2
     subst e1 e2;have hrl:=HG.out k m[k] (by simp[hlt]);rw[hrl]at hc;have HI:=Zh hI;have HRL:=Zh hrl;have HC:=Zh hc;clear hI hrl;go_wp2;go_loopw [8,58] (fun _ j wr=>∃q:Nat,q<=n/\j= .int .i64 q/\Hid (OwnI wr w.heap.size g n hs (tab (Qw F k q) m.length n))/\Ext w wr) (fun _ j _=>n-(intOf j).toNat)
     case atStart=>exact⟨0,aa,rfl,HO1,Zi⟩
     case round=>
      obtain⟨q,hq,rfl,HO2,hxq⟩:=hrel;by_cases zsz:q<n
      ·obtain⟨b1,c1,hp1,d1,d2,d3,d4,d5,d6⟩:=HO2.out.hdr (i:=k) (by rw[zr];exact hlt);have HP1:=Zh hp1;have HX:=Zh (fun W hh=>HO2.out.hdrX hp1 (by rw[zr];exact hlt) W hh);have hlo:=HO2.out.lo_row hp1;have hnw:New b1 w:=⟨hlo⟩;obtain⟨b2,o2,B2,c2,hh,hc2,hI2,-,-,hb2⟩:=h0.at_ (i:=k) (r:=m[k]) (by simp[hlt]);injection hh with hh
       injection hh with e1 e2
       subst e1 e2;rw[HRL.out]at hc2;obtain⟨b3,o3,x3,rfl,hx3,hc3,hb3⟩:=hI2.at_ (i:=q) (by rw[HRL.out];exact zsz);have HLL:Hid (∀W,Ext w W->W.cell? ⟨b,o+k,none⟩=some (.slice (some ⟨b3,o3,none⟩) n c2)/\W.cell? ⟨b3,o3+q,none⟩=some (.int .i64 x3)):=Zh (fun W hh=>⟨(hh.below.cell (p:=⟨b,o+k,none⟩) hb2).trans hc2,(hh.below.cell (p:=⟨b3,o3+q,none⟩) hb3).trans hc3⟩);clear hc2 hc3;have zsv:=H64.out m[k] (List.getElem_mem hlt) x3 (Zm hx3)
       have HX3:Hid (x3=F k q):=Zh (by rw[HF.out];simp[List.getD,hlt,hx3]);have HE:Hid (∀W,Ext wr W->∃s B k' d,W.cell? ⟨b1,q*2,none⟩=some (.bool s)/\W.cell? ⟨b1,q*2+1,none⟩=some (.slice B k' d)/\W.frozen? ⟨b1,q*2,none⟩=false/\W.frozen? ⟨b1,q*2+1,none⟩=false/\b1<W.heap.size):=Zh (fun W hh=>by
        obtain⟨s,B,k',d,a1,a2,-,a4,a5⟩:=(HO2.out.ext hh).entry (i:=k) HP1.out (by rw[zr];exact hlt) zsz;exact⟨s,B,k',d,a1,a2,a4,a5,Nat.lt_of_lt_of_le d5 hh.size⟩)
       clear hp1 hx3 hI2;obtain⟨hf1,hf2⟩:=zsv;go_wp2;go_region_held3 (fun w'=>w'.cell? ⟨g,k,none⟩=some (.slice (some ⟨b1,0,none⟩) n c1)/\w'.cell? ⟨b,o+k,none⟩=some (.slice (some ⟨b3,o3,none⟩) n c2)/\w'.cell? ⟨b3,o3+q,none⟩=some (.int .i64 x3))
        (first|exact⟨(HX.out _ Zi).1,HLL.out _ Zi⟩|exact⟨(HX.out _ Zi).2 _ _ _ _,HLL.out _ Zi⟩)
        (first
         |(go_at_call 114;refine(QF x3 hf1 hf2 _).mono ?_;rintro e w5 ⟨g5,B5,k5,n5,rfl,hz5,hs5⟩;obtain⟨s6,B6,k6,n6,f1,f2,f3,f4,f5⟩:=HE.out w5 Zi))
       go_wp2;refine⟨⟨q+1,aa,by go_num,Zh ?_,?_⟩,by simp[intOf]<;>omega⟩
       ·have hO5:=(HO2.out.ext (Zi:Ext wr w5)).set HP1.out (by rw[zr];exact hlt) zsz hz5;rw[HX3.out,zhf hlt zsz]at hO5;exact hO5
       ·exact((Zi:Ext w w5).setCell (p:=⟨b1,q*2,none⟩) hlo _).setCell (p:=⟨b1,q*2+1,none⟩) hlo _
      ·obtain rfl:q=n:=aa
       go_wp2;exact⟨⟨k+1,aa,by go_num,Zh (by rw[<-zhg];exact HO2.out),hxq⟩,by simp[intOf]<;>omega⟩
    ·obtain rfl:k=m.length:=aa
     go_wp2;go_ret2
     refine⟨g,hs,cz,rfl,?_,zsL,zs3,hxr.toStep⟩;have:=HO1.out;rw[zhh,HT.out]at this;exact this
theorem IntV.bd{g:Bool}(h:IntV w g B n c z)(hb:Bd k z)(hk:k<=8000000000000):n<=274877906943:=by
 have h1:n<=k / 32+1:=by
  refine h.len ?_;have h2:z.natAbs<2^(32*(k / 32+1)):=Nat.lt_of_lt_of_le hb (Nat.pow_le_pow_right aa aa);rw[<-znq]at h2;have h3:=Int.ofNat_lt.2 h2;rw[Int.natCast_pow]at h3;exact h3
 omega
theorem MatV.entry(h:MatV w A m)(hn:AllLen m n)(hi:i<m.length)(hj:j<n):
  ∃b o b' o' c g B k d,A=some ⟨b,o,none⟩/\w.cell? ⟨b,o+i,none⟩=some (.slice (some ⟨b',o',none⟩) n c)/\w.cell? ⟨b',o'+j*2,none⟩=some (.bool g)/\w.cell? ⟨b',o'+j*2+1,none⟩=some (.slice B k d)/\IntV w g B k d (ent m i j)/\b<w.heap.size/\b'<w.heap.size/\n<=c/\c<=9223372036854775807:=by
 obtain⟨r,hr⟩:∃r,m[i]? =some r:=⟨_,Ze hi⟩;have hl:=hn r (Zm hr);obtain⟨b,o,B,c,rfl,hc,hI,h1,h2,hb⟩:=h.at_ hr;obtain⟨b',o',g,B',k,d,rfl,e1,e2,hz,hb'⟩:=hI.at_ (i:=j) aa;have he:=zd5 hr (j:=j) aa;rw[Ze aa]at he;injection he with he
 rw[hl]at hc h1;rw[he]at hz;exact⟨b,o,b',o',c,g,B',k,d,rfl,hc,e1,e2,hz,hb,hb',h1,h2⟩
theorem MatV.hdr(h:MatV w A m)(hn:AllLen m n)(hi:i<m.length):
  ∃b o B c,A=some ⟨b,o,none⟩/\w.cell? ⟨b,o+i,none⟩=some (.slice B n c)/\IntsV w B (m.getD i [])/\b<w.heap.size/\n<=c/\c<=9223372036854775807:=by
 obtain⟨r,hr⟩:∃r,m[i]? =some r:=⟨_,Ze hi⟩;have hl:=hn r (Zm hr);obtain⟨b,o,B,c,rfl,hc,hI,h1,h2,hb⟩:=h.at_ hr;have e:m.getD i []=r:=by simp[List.getD,hr]
 rw[hl]at hc h1;exact⟨b,o,B,c,rfl,hc,by rw[e];exact hI,hb,h1,h2⟩
theorem zd9(h:MatA w0 A m)(n:Nat)(h1:1<=m.length)(h2:m.length<=16)(h3:1<=n)(h4:n<=16)(hn:AllLen m n)(h64:qf m)[hx:Ext w0 w]:
  Cq 26 #[.slice A m.length c] w (RetOwnI w n m):=by
 go_enter Tryz.func26,Tryz.ntmps26;go_wp2_with (go_at_call 55;refine(znD h n h1 h2 h3 h4 hn h64).mono ?_;rintro e w2 ⟨g,hs,cz,rfl,hO,zsL,zs3,hs2⟩)
 go_ret;exact⟨g,hs,cz,rfl,hO,zsL,zs3,Step.of _ _⟩
def Q7(n:Nat):List (List Int):=tab (fun x y=>if x=y then 1 else 0) n n
def JB(k:Nat):Nat->Nat->Int:=fun x y=>if x=y/\x<k then 1 else 0
theorem znE(hk:k<n):zI (tab (JB k) n n) k k 1=tab (JB (k+1)) n n:=by
 rw[Qe hk hk];refine ZC fun x y _ _=>?_
 unfold JB;by_cases h:x=k/\y=k
 ·rw[if_pos h,if_pos aa]
 ·rw[if_neg h];by_cases h2:x=y/\x<k
  ·rw[if_pos h2,if_pos aa]
  ·rw[if_neg h2,if_neg aa]
theorem znF(n:Nat):tab (JB n) n n=Q7 n:=ZC fun x y hx _=>by
 unfold JB;by_cases h:x=y
 ·rw[if_pos ⟨h,hx⟩,if_pos h]
 ·rw[if_neg aa,if_neg h]
theorem znG(n:Nat):tab (JB 0) n n=tab (fun _ _=>0) n n:=ZC fun x y _ _=>by unfold JB;rw[if_neg aa]
theorem zhl(n:Nat)(h1:1<=n)(h2:n<=16):
  Cq 74 #[.int .i64 n] w (RetOwnIB w n (Q7 n)):=by
 have hd1:decide ((n:Int)<1)=false:=by simp;omega
 have hd2:decide ((16:Int)<(n:Int))=false:=by simp;omega
 go_enter Tryz.func74,Tryz.ntmps74;go_wp2_with (go_at_call 113;refine(zcj n n aa aa).mono ?_;rintro e w2 ⟨g,hs,cz,rfl,hO,zsL,zs3,hs2⟩;rw[zr]at zsL|-)
 have HO:=Zh hO;clear hO;go_loopw [5,17] (fun _ i wr=>∃k:Nat,k<=n/\i= .int .i64 k/\Hid (OwnI wr w.heap.size g n hs (tab (JB k) n n))/\Ext w wr) (fun _ i _=>n-(intOf i).toNat)
 case atStart=>exact⟨0,aa,rfl,Zh (by rw[znG];exact HO.out),Zi⟩
 case round=>
  obtain⟨k,hk,rfl,HO2,hxr⟩:=hrel;by_cases hlt:k<n
  ·obtain⟨b1,c1,hp1,d1,d2,d3,d4,d5,d6⟩:=HO2.out.hdr (i:=k) (by rw[zr];exact hlt);have HP1:=Zh hp1;have HX:=Zh (fun W hh=>HO2.out.hdrX hp1 (by rw[zr];exact hlt) W hh);have hlo:=HO2.out.lo_row hp1;have hnw:New b1 w:=⟨hlo⟩;have HE:Hid (∀W,Ext wr W->∃s B k' d,W.cell? ⟨b1,k*2,none⟩=some (.bool s)/\W.cell? ⟨b1,k*2+1,none⟩=some (.slice B k' d)/\W.frozen? ⟨b1,k*2,none⟩=false/\W.frozen? ⟨b1,k*2+1,none⟩=false/\b1<W.heap.size):=Zh (fun W hh=>by
    obtain⟨s,B,k',d,a1,a2,-,a4,a5⟩:=(HO2.out.ext hh).entry (i:=k) HP1.out (by rw[zr];exact hlt) hlt;exact⟨s,B,k',d,a1,a2,a4,a5,Nat.lt_of_lt_of_le d5 hh.size⟩)
   clear hp1;go_wp2;go_region_held3 (fun w'=>w'.cell? ⟨g,k,none⟩=some (.slice (some ⟨b1,0,none⟩) n c1))
    (first|exact(HX.out _ Zi).1|exact(HX.out _ Zi).2 _ _ _ _)
    (first
     |(go_at_call 114;refine(QF 1 aa aa _).mono ?_;rintro e w5 ⟨g5,B5,k5,n5,rfl,hz5,hs5⟩;obtain⟨s6,B6,k6,n6,f1,f2,f3,f4,f5⟩:=HE.out w5 Zi))
   go_wp2;refine⟨⟨k+1,aa,by go_num,Zh ?_,?_⟩,by simp[intOf]<;>omega⟩
   ·have hO5:=(HO2.out.ext (Zi:Ext wr w5)).set HP1.out (by rw[zr];exact hlt) hlt hz5;rw[znE hlt]at hO5;exact hO5
   ·exact((Zi:Ext w w5).setCell (p:=⟨b1,k*2,none⟩) hlo _).setCell (p:=⟨b1,k*2+1,none⟩) hlo _
  ·obtain rfl:k=n:=aa
   go_wp2;go_ret2
   have hl:(Q7 k).length=k:=zr _ _ _;refine⟨g,hs,cz,by rw[hl];rfl,?_,by rw[hl];exact zsL,zs3,hxr.toStep⟩;have:=HO2.out;rw[znF]at this;exact this
theorem zhm(h:MatV w0 A m)(n:Nat)(h1:m.length=n)(h3:1<=n)(h4:n<=16)(hn:AllLen m n)(hbd:∀i j,∃k,k<=8000000000000/\Bd k (ent m i j))[hx:Ext w0 w]:
  Cq 58 #[.slice A n c] w (RetOwnIB w n (QK n m)):=by
 have h0:=h.ext hx;have hsh:=fun W(hh:Ext w W)=>zck (w:=W) (c:=c) h0 n aa aa h3 h4 hn
 rw[h1]at hsh;have HSH:=Zh hsh;have HA:=Zh hn;have HB:=Zh hbd;have HL:=Zh h1;clear hsh hn hbd h1;obtain⟨F,hF⟩:∃F:Nat->Nat->Int,F=fun i j=>ent m j i:=⟨_,rfl⟩
 have HF:=Zh hF;clear hF;go_enter Tryz.func58,Tryz.ntmps58;go_wp2_with (first
  |(go_at_call 59;refine(HSH.out _ Zi).mono ?_;rintro e w1 ⟨rfl,hs1⟩)
  |(go_at_call 113;refine(zcj n n aa aa).mono ?_;rintro e w2 ⟨g,hs,cz,rfl,hO,zsL,zs3,hs2⟩;rw[zr]at zsL|-;have HO:=Zh (show OwnI w2 w.heap.size g n hs _ from ⟨hO.head,Nat.le_trans (Zi:Ext w w1).size hO.glo,hO.len,hO.dist,fun x hx=>⟨Nat.le_trans (Zi:Ext w w1).size (hO.new x hx).1,(hO.new x hx).2⟩,hO.all,hO.row⟩);clear hO))
 go_loopw [8,9,23] (fun _ _ i wr=>∃k:Nat,k<=n/\i= .int .i64 k/\Hid (OwnI wr w.heap.size g n hs (tab (Q6 F k 0) n n))/\Ext w wr) (fun _ _ i _=>n-(intOf i).toNat)
 case atStart=>exact⟨0,aa,rfl,Zh (by rw[znC];exact HO.out),Zi⟩
 case round=>
  obtain⟨k,hk,rfl,HO1,hxr⟩:=hrel;obtain⟨wo,rfl⟩:∃wo:World,wo=wr:=⟨_,rfl⟩;by_cases hlt:k<n
  ·obtain⟨b,o,B,c0,rfl,hc0,-,hb0,-,-⟩:=h0.hdr HA.out (i:=k) (by rw[HL.out];exact hlt);have hc:=(hxr.below.cell (p:=⟨b,o+k,none⟩) hb0).trans hc0;clear hc0;go_wp2;go_loopw [9,31] (fun _ j wr=>∃q:Nat,q<=n/\j= .int .i64 q/\Hid (OwnI wr w.heap.size g n hs (tab (Q6 F k q) n n))/\Ext w wr) (fun _ j _=>n-(intOf j).toNat)
   case atStart=>exact⟨0,aa,rfl,HO1,Zi⟩
   case round=>
    obtain⟨q,hq,rfl,HO2,hxq⟩:=hrel;by_cases zsz:q<n
    ·obtain⟨b1,c1,hp1,d1,d2,d3,d4,d5,d6⟩:=HO2.out.hdr (i:=q) (by rw[zr];exact zsz);have HP1:=Zh hp1;have HX:=Zh (fun W hh=>HO2.out.hdrX hp1 (by rw[zr];exact zsz) W hh);have hlo:=HO2.out.lo_row hp1;have hnw:New b1 w:=⟨hlo⟩;obtain⟨b2,o2,b3,o3,c2,g3,B3,n3,c3,hh,hc2,hc3,hc4,hz3,hb2,hb3,-,-⟩:=h0.entry HA.out (i:=k) (j:=q) (by rw[HL.out];exact hlt) zsz;injection hh with hh
     injection hh with e1 e2
     subst e1 e2;have HLL:Hid (∀W,Ext w W->W.cell? ⟨b,o+k,none⟩=some (.slice (some ⟨b3,o3,none⟩) n c2)/\W.cell? ⟨b3,o3+q*2,none⟩=some (.bool g3)/\W.cell? ⟨b3,o3+q*2+1,none⟩=some (.slice B3 n3 c3)):=Zh (fun W hh=>⟨(hh.below.cell (p:=⟨b,o+k,none⟩) hb2).trans hc2,(hh.below.cell (p:=⟨b3,o3+q*2,none⟩) hb3).trans hc3,(hh.below.cell (p:=⟨b3,o3+q*2+1,none⟩) hb3).trans hc4⟩);have hFe:ent m k q=F q k:=by rw[HF.out]
     rw[hFe]at hz3;have zt0:n3<=1099511627776:=by
      obtain⟨kk,hk1,hk2⟩:=HB.out k q;rw[hFe]at hk2;have:=hz3.bd hk2 hk1;omega
     have HN:=Zh (fun W(hh:Ext w W)=>zfU (w:=W) hz3 zt0);have HE:Hid (∀W,Ext wr W->∃s B k' d,W.cell? ⟨b1,k*2,none⟩=some (.bool s)/\W.cell? ⟨b1,k*2+1,none⟩=some (.slice B k' d)/\W.frozen? ⟨b1,k*2,none⟩=false/\W.frozen? ⟨b1,k*2+1,none⟩=false/\b1<W.heap.size):=Zh (fun W hh=>by
      obtain⟨s,B,k',d,a1,a2,-,a4,a5⟩:=(HO2.out.ext hh).entry (i:=q) HP1.out (by rw[zr];exact zsz) hlt;exact⟨s,B,k',d,a1,a2,a4,a5,Nat.lt_of_lt_of_le d5 hh.size⟩)
     clear hp1 hc2 hc3 hc4 hz3 hFe zt0;go_wp2;go_region_held3 (fun w'=>w'.cell? ⟨g,q,none⟩=some (.slice (some ⟨b1,0,none⟩) n c1)/\w'.cell? ⟨b,o+k,none⟩=some (.slice (some ⟨b3,o3,none⟩) n c2)/\w'.cell? ⟨b3,o3+q*2,none⟩=some (.bool g3)/\w'.cell? ⟨b3,o3+q*2+1,none⟩=some (.slice B3 n3 c3))
      (first|exact⟨(HX.out _ Zi).1,HLL.out _ Zi⟩|exact⟨(HX.out _ Zi).2 _ _ _ _,HLL.out _ Zi⟩)
      (first
       |(go_at_call 118;refine(HN.out _ Zi).mono ?_;rintro e w5 ⟨g5,B5,k5,n5,rfl,hz5,hs5⟩;obtain⟨s6,B6,k6,n6,f1,f2,f3,f4,f5⟩:=HE.out w5 Zi))
     go_wp2;refine⟨⟨q+1,aa,by go_num,Zh ?_,?_⟩,by simp[intOf]<;>omega⟩
     ·have hO5:=(HO2.out.ext (Zi:Ext wr w5)).set HP1.out (by rw[zr];exact zsz) hlt hz5;rw[znz zsz hlt]at hO5;exact hO5
     ·exact((Zi:Ext w w5).setCell (p:=⟨b1,k*2,none⟩) hlo _).setCell (p:=⟨b1,k*2+1,none⟩) hlo _
    ·obtain rfl:q=n:=aa
     go_wp2;exact⟨⟨k+1,aa,by go_num,Zh (by rw[<-znA];exact HO2.out),hxq⟩,by simp[intOf]<;>omega⟩
  ·obtain rfl:k=n:=aa
   go_wp2;go_ret2
   have hl:(QK k m).length=k:=zr _ _ _;refine⟨g,hs,cz,by rw[hl];rfl,?_,by rw[hl];exact zsL,zs3,hxr.toStep⟩;have:=HO1.out;rw[znB,HF.out]at this;exact this
def BdL(k:Nat)(l:List Int):Prop:=∀i,Bd k (l.getD i 0)
theorem zea{F:Nat->Int}(h:∀i,i<n->Bd k (F i))(q:Nat):q<=n->Bd (k+q) (zj q F):=by
 induction q with
 |zero=>intro _;exact Bd.zero _
 |succ q ih=>
  intro hq;rw[Zx];exact((ih aa).add ((h q aa).mono aa))
theorem IntsV.atD(h:IntsV w A zs)(hi:i<zs.length):
  ∃b o g B n c,A=some ⟨b,o,none⟩/\w.cell? ⟨b,o+i*2,none⟩=some (.bool g)/\w.cell? ⟨b,o+i*2+1,none⟩=some (.slice B n c)/\IntV w g B n c (zs.getD i 0)/\b<w.heap.size:=by
 obtain⟨b,o,g,B,n,c,h1,h2,h3,h4,h5⟩:=h.at_ hi;have e:zs.getD i 0=zs[i]:=by simp[List.getD,hi]
 exact⟨b,o,g,B,n,c,h1,h2,h3,by rw[e];exact h4,h5⟩
theorem znH{xs ys:List Int}(ha':IntsV w0 A xs)(hb':IntsV w1 B ys)(h1:xs.length=n)(h2:ys.length=n)(h3:n<=16)(hk:k<=1000000000000)(hX:BdL k xs)(hY:BdL k ys)[hx:Ext w0 w][hy:Ext w1 w]:
  Cq 121 #[.slice A n c,.slice B n d] w (zz w (zj n fun i=>xs.getD i 0*ys.getD i 0)):=by
 have ha:=ha'.ext hx;have hb:=hb'.ext hy;obtain⟨F,hF⟩:∃F:Nat->Int,F=fun i=>xs.getD i 0*ys.getD i 0:=⟨_,rfl⟩
 rw[<-hF];have HBD:Hid (∀q,q<=n->Bd (2*k+q) (zj q F)):=Zh (fun q hq=>by
  refine zea (n:=n) (fun i _=>?_) q hq;rw[hF];have:=(hX i).mul (hY i);rwa [(aa:k+k=2*k)]at this)
 have HF:=Zh hF;have HX:=Zh hX;have HY:=Zh hY;have H1:=Zh h1;have H2:=Zh h2;clear hF hX hY ha' hb' h1 h2;go_enter Tryz.func121,Tryz.ntmps121;go_wp2;go_loopw [6,10] (fun _ i wr=>∃q:Nat,q<=n/\i= .int .i64 q/\Hid (Box wr (w.heap.size+1) (zj q F))/\Hid (wr.heap[w.heap.size]? =some (.cells #[.bool false,.slice none 0 0] 102 (0,0)))/\Ext w wr) (fun _ i _=>n-(intOf i).toNat)
 case atStart=>
  refine⟨0,aa,rfl,Zh ⟨false,none,0,0,BlkAt.eq,IntV.zero _ none 0 aa⟩,Zh BlkAt.eq,Zi⟩
 case round=>
  obtain⟨q,hq,rfl,HB,HR,hxr⟩:=hrel;by_cases hlt:q<n
  ·obtain⟨g0,B0,n0,c0,hbk,p1,p2,p3,p4,p5,hz0⟩:=HB.out.cells;obtain⟨b1,o1,g1,B1,n1,c1,rfl,x1,x2,hz1,hb1⟩:=(ha.ext hxr).atD (i:=q) (by rw[H1.out];exact hlt);obtain⟨b2,o2,g2,B2,n2,c2,rfl,y1,y2,hz2,hb2⟩:=(hb.ext hxr).atD (i:=q) (by rw[H2.out];exact hlt);have l0:=hz0.bd (HBD.out q hq) aa;have l1:=hz1.bd (HX.out q) aa;have l2:=hz2.bd (HY.out q) aa;have o0:Old (w.heap.size+1) wr:=⟨p5⟩
   have HM:=Zh (fun W(hh:Ext wr W)=>zan (w:=W) hz1 hz2 aa aa);have hFq:xs.getD q 0*ys.getD q 0=F q:=by rw[HF.out]
   rw[hFq]at HM;have HAD:Hid (∀(W1 W:World)(g:Bool)B k' d',IntV W1 g B k' d' (F q)->Ext wr W->Ext W1 W->Cq 180 #[.agg #[.bool g0,.slice B0 n0 c0],.agg #[.bool g,.slice B k' d']] W (zz W (zj (q+1) F))):=Zh (fun W1 W g B k' d' hz e1 e2=>by
    have hl:=hz.bd (k:=2*k) (by rw[<-hFq,(aa:2*k=k+k)];exact(HX.out q).mul (HY.out q)) aa;rw[Zx];exact zam hz0 hz aa aa)
   have HBK:=Zh hbk;have HCE:=Zh (And.intro p1 p2);have HFZ:=Zh (And.intro p3 p4);clear hbk hFq hz0 hz1 hz2 l0 l1 l2;go_wp2;go_region_with (first
    |(go_at_call 125;refine(HM.out _ Zi).mono ?_;rintro e w5 ⟨g5,B5,k5,d5,rfl,hz5,hs5⟩;have r1:w5.cell? ⟨w.heap.size+1,0,none⟩=some (.bool g0):=(zk wr).trans HCE.out.1;have r2:w5.cell? ⟨w.heap.size+1,1,none⟩=some (.slice B0 n0 c0):=(zk wr).trans HCE.out.2)
    |(go_at_call 180;refine(HAD.out _ _ _ _ _ _ hz5 Zi Zi).mono ?_;rintro e w6 ⟨g6,B6,k6,d6,rfl,hz6,hs6⟩;have s1:w6.cell? ⟨w.heap.size+1,0,none⟩=some (.bool g0):=(zk wr).trans HCE.out.1;have s2:w6.cell? ⟨w.heap.size+1,1,none⟩=some (.slice B0 n0 c0):=(zk wr).trans HCE.out.2;have fz0:w6.frozen? ⟨w.heap.size+1,0,none⟩=false:=(ZY wr).trans HFZ.out.1;have fz1:w6.frozen? ⟨w.heap.size+1,1,none⟩=false:=(ZY wr).trans HFZ.out.2))
   all_goals
    go_wp2;refine⟨⟨q+1,aa,by go_num,Zh ?_,Zh ?_,?_⟩,by simp[intOf]<;>omega⟩
    ·exact Box.put (zg (Zi:Ext wr w6) HBK.out) hz6
    ·exact ZD (ZD (zg (Zi:Ext wr w6) HR.out) (p:=⟨w.heap.size+1,0,none⟩) af _) (p:=⟨w.heap.size+1,1,none⟩) af _
    ·exact Zi
  ·obtain rfl:q=n:=aa
   obtain⟨g0,B0,n0,c0,hbk,p1,p2,p3,p4,p5,hz0⟩:=HB.out.cells;obtain⟨q1,q2,q3,q4,q5⟩:=zN HR.out;have tq:Typed w.heap.size 102 wr:=⟨_,_,HR.out⟩;have HZ:=Zh hz0;clear hz0 hbk;go_wp2;exact bodyPost_ret (v:= .agg #[.bool g0,.slice B0 n0 c0]) (by simp[results,Tryz.results121,go_sem,q1,q2]) rfl ⟨_,_,_,_,rfl,HZ.out.keeps,Step.of _ _⟩
theorem jp(F:Nat->Nat->Int)(r c i j:Nat)(hi:i<r)(hj:j<c):ent (tab F r c) i j=F i j:=by
 unfold ent;have e:(tab F r c).getD i []=(List.range c).map fun y=>F i y:=by simp[List.getD,QT F r c i hi]
 rw[e];simp[List.getD,hj]
theorem zcl(hn:AllLen m n)(hi:i<m.length):(m.getD i []).length=n:=by
 have e:m.getD i []=m[i]:=by simp[List.getD,hi]
 rw[e];exact hn _ (List.getElem_mem hi)
theorem znI{a b:List (List Int)}(ha':MatV w0 A a)(hb':MatV w1 B b)(h1:a.length=n)(h2:b.length=n)(h3:1<=n)(h4:n<=16)(hla:AllLen a n)(hlb:AllLen b n)(hk:k<=1000000000000)(hA:∀i j,Bd k (ent a i j))(hB:∀i j,Bd k (ent b i j))[hx:Ext w0 w][hy:Ext w1 w]:
  Cq 61 #[.slice A n c,.slice B n d] w (RetOwnIB w n (ZN n a b)):=by
 have h0:=ha'.ext hx;have hb0:=hb'.ext hy;have hsh:=fun W(hh:Ext w W)=>zck (w:=W) (c:=c) h0 n aa aa h3 h4 hla
 rw[h1]at hsh;have HSH:=Zh hsh;have HTR:=Zh (fun W(hh:Ext w W)=>zhm (w:=W) (c:=d) hb0 n h2 h3 h4 hlb (fun i j=>⟨k,aa,hB i j⟩));obtain⟨t,ht⟩:=Xz (QK n b);rw[<-ht]at HTR;have htl:t.length=n:=by rw[ht];exact zr _ _ _
 have hta:AllLen t n:=by rw[ht];exact Qa _ _ _
 have hte:∀i j,i<n->j<n->ent t i j=ent b j i:=fun i j hi hj=>by rw[ht];exact jp _ _ _ _ _ hi hj
 obtain⟨F,hF⟩:∃F:Nat->Nat->Int,F=fun i j=>zj n fun k=>ent a i k*ent b k j:=⟨_,rfl⟩
 have zst:ZN n a b=tab F n n:=by rw[hF];rfl
 have HDT:Hid (∀(W0 W1 W:World)(A1 B1:Option Addr)(c1 d1:Nat)(i j:Nat),i<n->j<n->IntsV W0 A1 (a.getD i [])->IntsV W1 B1 (t.getD j [])->Ext W0 W->Ext W1 W->Cq 121 #[.slice A1 n c1,.slice B1 n d1] W (zz W (F i j))):=Zh (by
  intro W0 W1 W A1 B1 c1 d1 i j hi hj hI hJ e1 e2;have:=znH (w:=W) (c:=c1) (d:=d1) (n:=n) (k:=k) hI hJ (zcl hla aa) (zcl hta aa) h4 hk (fun x=>hA i x) (fun x=>by
   show Bd k (ent t j x);by_cases hxn:x<n
   ·rw[hte j x hj hxn];exact hB x j
   ·have:ent t j x=0:=by
     unfold ent;rw[List.getD_eq_getElem?_getD (l:=t.getD j []),List.getElem?_eq_none (by rw[zcl hta aa];omega)];rfl
    rw[this];exact Bd.zero k)
  have e3:(zj n fun x=>(a.getD i []).getD x 0*(t.getD j []).getD x 0)=F i j:=by
   rw[hF];refine zT fun x hxn=>?_
   show ent a i x*ent t j x=_;rw[hte j x hj hxn]
  rw[e3]at this;exact this)
 have HA:=Zh hla;have HTA:=Zh hta;have HL:=Zh h1;have HTL:=Zh htl;have HFI:=Zh zst;clear hsh hla hlb h1 h2 ht hta htl hte hF zst hA hB;go_enter Tryz.func61,Tryz.ntmps61;go_wp2_with (first
  |(go_at_call 59;refine(HSH.out _ Zi).mono ?_;rintro e w1' ⟨rfl,hs1⟩)
  |(go_at_call 58;refine(HTR.out _ Zi).mono ?_;rintro e w3 ⟨g3,zvH,c3,rfl,hO3,zxc,zye,hs3⟩;rw[HTL.out]at zxc|-;have HT3:=Zh hO3.mat;clear hO3)
  |(go_at_call 113;refine(zcj n n aa aa).mono ?_;rintro e w2 ⟨g,hs,cz,rfl,hO,zsL,zs3,hs2⟩;rw[zr]at zsL|-;have HO:=Zh hO;clear hO))
 have hx3:Ext w w3:=Zi;go_loopw [12,13,44] (fun _ _ i wr=>∃k:Nat,k<=n/\i= .int .i64 k/\Hid (OwnI wr w3.heap.size g n hs (tab (Qw F k 0) n n))/\Ext w3 wr) (fun _ _ i _=>n-(intOf i).toNat)
 case atStart=>exact⟨0,aa,rfl,Zh (by rw[zhi];exact HO.out),Zi⟩
 case round=>
  obtain⟨k,hk,rfl,HO1,hxr⟩:=hrel;obtain⟨wo,rfl⟩:∃wo:World,wo=wr:=⟨_,rfl⟩;by_cases hlt:k<n
  ·go_wp2;go_loopw [13,49] (fun _ j wr=>∃q:Nat,q<=n/\j= .int .i64 q/\Hid (OwnI wr w3.heap.size g n hs (tab (Qw F k q) n n))/\Ext w3 wr) (fun _ j _=>n-(intOf j).toNat)
   case atStart=>exact⟨0,aa,rfl,HO1,Zi⟩
   case round=>
    obtain⟨q,hq,rfl,HO2,hxq⟩:=hrel;by_cases zsz:q<n
    ·obtain⟨b1,c1,hp1,d1,d2,d3,d4,d5,d6⟩:=HO2.out.hdr (i:=k) (by rw[zr];exact hlt);have HP1:=Zh hp1;have HX:=Zh (fun W hh=>HO2.out.hdrX hp1 (by rw[zr];exact hlt) W hh);have hlo:=HO2.out.lo_row hp1;have hnw:New b1 w3:=⟨hlo⟩;obtain⟨b2,o2,B2,c2,rfl,hc2,hI2,hb2,-,-⟩:=(h0.ext hx3).hdr HA.out (i:=k) (by rw[HL.out];exact hlt);obtain⟨b5,o5,B5,c5,hh,hc5,hI5,hb5,-,-⟩:=HT3.out.hdr HTA.out (i:=q) (by rw[HTL.out];exact zsz)
     injection hh with hh
     injection hh with e1 e2
     subst e1 e2;simp only[Nat.zero_add]at hc5;have HLL:Hid (∀W,Ext w3 W->W.cell? ⟨b2,o2+k,none⟩=some (.slice B2 n c2)/\W.cell? ⟨g3,q,none⟩=some (.slice B5 n c5)):=Zh (fun W hh=>⟨(hh.below.cell (p:=⟨b2,o2+k,none⟩) hb2).trans hc2,(hh.below.cell (p:=⟨g3,q,none⟩) hb5).trans hc5⟩);have HN:=Zh (fun W(hh:Ext w3 W)=>HDT.out w3 w3 W B2 B5 c2 c5 k q hlt zsz hI2 hI5 hh hh);have HE:Hid (∀W,Ext wr W->∃s B k' d,W.cell? ⟨b1,q*2,none⟩=some (.bool s)/\W.cell? ⟨b1,q*2+1,none⟩=some (.slice B k' d)/\W.frozen? ⟨b1,q*2,none⟩=false/\W.frozen? ⟨b1,q*2+1,none⟩=false/\b1<W.heap.size):=Zh (fun W hh=>by
      obtain⟨s,B,k',d,a1,a2,-,a4,a5⟩:=(HO2.out.ext hh).entry (i:=k) HP1.out (by rw[zr];exact hlt) zsz;exact⟨s,B,k',d,a1,a2,a4,a5,Nat.lt_of_lt_of_le d5 hh.size⟩)
     clear hp1 hc2 hc5 hI2 hI5;go_wp2;go_region_held3 (fun w'=>w'.cell? ⟨g,k,none⟩=some (.slice (some ⟨b1,0,none⟩) n c1)/\w'.cell? ⟨b2,o2+k,none⟩=some (.slice B2 n c2)/\w'.cell? ⟨g3,q,none⟩=some (.slice B5 n c5))
      (first|exact⟨(HX.out _ Zi).1,HLL.out _ Zi⟩|exact⟨(HX.out _ Zi).2 _ _ _ _,HLL.out _ Zi⟩)
      (first
       |(go_at_call 121;refine(HN.out _ Zi).mono ?_;rintro e w5 ⟨g5,B5,k5,n5,rfl,hz5,hs5⟩;obtain⟨s6,B6,k6,n6,f1,f2,f3,f4,f5⟩:=HE.out w5 Zi))
     go_wp2;refine⟨⟨q+1,aa,by go_num,Zh ?_,?_⟩,by simp[intOf]<;>omega⟩
     ·have hO5:=(HO2.out.ext (Zi:Ext wr w5)).set HP1.out (by rw[zr];exact hlt) zsz hz5;rw[zhf hlt zsz]at hO5;exact hO5
     ·exact((Zi:Ext w3 w5).setCell (p:=⟨b1,q*2,none⟩) hlo _).setCell (p:=⟨b1,q*2+1,none⟩) hlo _
    ·obtain rfl:q=n:=aa
     go_wp2;exact⟨⟨k+1,aa,by go_num,Zh (by rw[<-zhg];exact HO2.out),hxq⟩,by simp[intOf]<;>omega⟩
  ·obtain rfl:k=n:=aa
   go_wp2;go_ret2
   have h:=HO1.out;rw[zhh,<-HFI.out]at h;have hl:(ZN k a b).length=k:=zr _ _ _;have hss:=hx3.size;refine⟨g,hs,cz,by rw[hl];rfl,⟨h.head,Nat.le_trans hss h.glo,h.len,h.dist,fun x hx=>⟨Nat.le_trans hss (h.new x hx).1,(h.new x hx).2⟩,h.all,h.row⟩,by rw[hl];exact zsL,zs3,(hx3.trans hxr).toStep⟩
theorem zcm{nb:Bool}(ha:IntV w0 na A n c x)(hb:IntV w1 nb B k d y)(h1:n<=274877906943)(h2:k<=274877906943)(hy0:y≠0)[hx:Ext w0 w][hy:Ext w1 w]:
  Cq 127 #[.agg #[.bool na,.slice A n c],.agg #[.bool nb,.slice B k d]] w (zz w (x / y)):=by
 have hd:=fun W(e1:Ext w0 W)(e2:Ext w1 W)=>zhb (w:=W) ha hb h1 h2 hy0
 have HD:=Zh hd;clear hd;go_enter Tryz.func127,Tryz.ntmps127;go_wp2_with (go_at_call 181;refine(HD.out _ Zi Zi).mono ?_;rintro e w2 ⟨g,B1,k1,d1,g',B',k',d',rfl,hz,hz',hs2⟩;obtain⟨q0,q1,q2,q3,q4,q5⟩:=jy w w2 (.cells #[.bool na,.slice A n c] 102) (.cells #[.bool nb,.slice B k d] 102) (.bool false) (.slice none 0 0) 102;have Q0:=Zh q0;clear q0;have tq:Typed (w.heap.size+1+1) 102 w2:=⟨_,_,Q0.out⟩)
 exact bodyPost_ret (v:= .agg #[.bool g,.slice B1 k1 d1]) (by simp[results,Tryz.results127,go_sem,q1,q2]) rfl ⟨_,_,_,_,rfl,hz.keeps,Step.of _ _⟩
theorem znJ{nb:Bool}(ha:IntV w0 na A n c x)(hb:IntV w1 nb B k d y)(h1:n<=274877906943)(h2:k<=274877906943)(hy0:y≠0)[hx:Ext w0 w][hy:Ext w1 w]:
  Cq 317 #[.agg #[.bool na,.slice A n c],.agg #[.bool nb,.slice B k d]] w (zz w (x%y)):=by
 have hd:=fun W(e1:Ext w0 W)(e2:Ext w1 W)=>zhb (w:=W) ha hb h1 h2 hy0
 have HD:=Zh hd;clear hd;go_enter Tryz.func317,Tryz.ntmps317;go_wp2_with (go_at_call 181;refine(HD.out _ Zi Zi).mono ?_;rintro e w2 ⟨g,B1,k1,d1,g',B',k',d',rfl,hz,hz',hs2⟩;obtain⟨q0,q1,q2,q3,q4,q5⟩:=jy w w2 (.cells #[.bool na,.slice A n c] 102) (.cells #[.bool nb,.slice B k d] 102) (.bool false) (.slice none 0 0) 102;have Q0:=Zh q0;clear q0;have tq:Typed (w.heap.size+1+1) 102 w2:=⟨_,_,Q0.out⟩)
 exact bodyPost_ret (v:= .agg #[.bool g',.slice B' k' d']) (by simp[results,Tryz.results317,go_sem,q1,q2]) rfl ⟨_,_,_,_,rfl,hz'.keeps,Step.of _ _⟩
theorem znK{nb:Bool}{kk:Nat}(ha:IntV w0 na A n c x)(hb:IntV w1 nb B k d y)(hkk:kk<=8000000000000)(hbx:Bd kk x)(hby:Bd kk y)[hx:Ext w0 w][hy:Ext w1 w]:
  Cq 301 #[.agg #[.bool na,.slice A n c],.agg #[.bool nb,.slice B k d]] w (zz w (Int.gcd x y)):=by
 have ln:=ha.bd hbx hkk;have lk:=hb.bd hby hkk;have HAA:=Zh (fun W(hh:Ext w0 W)=>zdq (w:=W) ha aa);have HAB:=Zh (fun W(hh:Ext w1 W)=>zdq (w:=W) hb aa);have hg0:=zny x y;obtain⟨G,hG⟩:=Yz (Int.gcd x y);rw[hG]at hg0|-
 have HG:=Zh hg0;have zvI:=hbx.abs;have zvJ:=hby.abs;have HBX:=Zh zvI;have HBY:=Zh zvJ;clear hG hg0 hbx hby ln lk zvI zvJ;go_enter Tryz.func301,Tryz.ntmps301;go_wp2;go_cut [5,6] (fun s5 s6 wx=>∃(p p':Nat),s5= .pointer (some ⟨p,0,none⟩)/\s6= .pointer (some ⟨p',0,none⟩)/\Hid (Box wx p x.natAbs)/\Hid (Box wx p' y.natAbs)/\w.heap.size+2<p/\w.heap.size+2<p'/\p≠p'/\wx.heap[w.heap.size+1+1]? =some (.cells #[.bool false,.slice none 0 0] 102 (0,0))/\Ext w wx)
 case first=>
  go_region_held3 (fun w'=>w'.cell? ⟨w.heap.size,0,none⟩=some (.bool na)/\w'.cell? ⟨w.heap.size,1,none⟩=some (.slice A n c)/\w'.cell? ⟨w.heap.size+1,0,none⟩=some (.bool nb)/\w'.cell? ⟨w.heap.size+1,1,none⟩=some (.slice B k d)) (exact qp w _ (.bool na) (.slice A n c) (.bool nb) (.slice B k d) 102 102)
   (first
    |(go_at_call_of 116 (Value.agg #[.bool na,.slice A n c]);refine(HAA.out _ Zi).mono ?_;rintro e w4 ⟨g4,B4,k4,d4,rfl,hz4,hs4⟩)
    |(go_at_call_of 116 (Value.agg #[.bool nb,.slice B k d]);refine(HAB.out _ Zi).mono ?_;rintro e w5 ⟨g5,B5,k5,d5,rfl,hz5,hs5⟩))
  all_goals (go_wp2_with fail;go_meet;have o4:w.heap.size+1+1<w4.heap.size:=(Zi:Old (w.heap.size+1+1) w4).lt;have o5:w.heap.size+1+1<w5.heap.size:=(Zi:Old (w.heap.size+1+1) w5).lt;refine⟨_,_,rfl,rfl,Zh ⟨g4,B4,k4,d4,?_,hz4.keeps⟩,Zh ⟨g5,B5,k5,d5,?_,hz5.keeps⟩,aa,aa,by first|omega|exact Apart.ne|(simp;done),BlkAt.eq,Zi⟩)
  all_goals exact BlkAt.eq
 case rest=>
  obtain⟨p,p',rfl,rfl,HB0,HB1,hp,hp',hpp,zvK,hxc⟩:=hcut;have zr5:=Zh zvK;clear zvK;go_wp2_with fail
  go_loopg [] (y.natAbs+1) (fun gk wr=>∃(u v:Int),Hid (Box wr p u)/\Hid (Box wr p' v)/\0<=u/\0<=v/\Hid (Bd kk u)/\Hid (Bd kk v)/\Hid (Int.gcd u v=G)/\v<gk/\Hid (wr.heap[w.heap.size+1+1]? =some (.cells #[.bool false,.slice none 0 0] 102 (0,0)))/\Ext w wr)
  case atStart=>exact⟨x.natAbs,y.natAbs,HB0,HB1,aa,aa,HBX,HBY,HG,aa,zr5,hxc⟩
  case round=>
   obtain⟨u,v,HU,HV,hu,hv,HBU,HBV,HGC,hgk,HR,hxr⟩:=hrel;obtain⟨g0,B0,n0,c0,hb0,p1,p2,p3,p4,p5,hz0⟩:=HU.out.cells;obtain⟨g1,B1,n1,c1,hb1,q1,q2,q3,q4,q5,hz1⟩:=HV.out.cells;have l0:=hz0.bd HBU.out hkk;have l1:=hz1.bd HBV.out hkk;have HSG:=Zh (fun W(hh:Ext wr W)=>jA (w:=W) hz1 aa);have oP:Old p wr:=⟨p5⟩;have oP':Old p' wr:=⟨q5⟩;have HC0:=Zh (And.intro p1 (And.intro p2 (And.intro p3 p4)));have HC1:=Zh (And.intro q1 (And.intro q2 (And.intro q3 q4)))
   have HK0:=Zh hb0;have HK1:=Zh hb1;have HZ0:=Zh hz0;have HZ1:=Zh hz1;by_cases h0:v=0
   ·have hsg:zo v 0=0:=Qm h0;rw[hsg]at HSG;obtain⟨t1,t2,t3,t4,t5⟩:=zN HR.out;have oR:Old (w.heap.size+1+1) wr:=⟨t5⟩;have HT:=Zh (And.intro t1 (And.intro t2 (And.intro t3 t4)));have zst:u=G:=by
     have:=HGC.out;rw[h0,Int.gcd_zero_right]at this;omega
    have HFI:=Zh zst;clear hz0 hz1 hb0 hb1 hsg zst h0;go_wp2_with (go_at_call 126;refine(HSG.out _ Zi).mono ?_;rintro e w6 ⟨rfl,hs6⟩;have r1:w6.cell? ⟨p,0,none⟩=some (.bool g0):=(zk wr).trans HC0.out.1;have r2:w6.cell? ⟨p,1,none⟩=some (.slice B0 n0 c0):=(zk wr).trans HC0.out.2.1;have r3:w6.cell? ⟨w.heap.size+1+1,0,none⟩=some (.bool false):=(zk wr).trans HT.out.1;have r4:w6.cell? ⟨w.heap.size+1+1,1,none⟩=some (.slice none 0 0):=(zk wr).trans HT.out.2.1;have r5:w6.frozen? ⟨w.heap.size+1+1,0,none⟩=false:=(ZY wr).trans HT.out.2.2.1;have r6:w6.frozen? ⟨w.heap.size+1+1,1,none⟩=false:=(ZY wr).trans HT.out.2.2.2;have tq:Typed (w.heap.size+1+1) 102 w6:=⟨_,_,zg (Zi:Ext wr w6) HR.out⟩)
    exact bodyPost_ret (v:= .agg #[.bool g0,.slice B0 n0 c0]) (by simp[results,Tryz.results301,go_sem,r3,r4]) rfl ⟨_,_,_,_,rfl,by rw[<-HFI.out];exact(HZ0.out.ext (Zi:Ext wr w6)).keeps,Step.of _ _⟩
   ·have hsg:zo v 0=1:=Ql aa;rw[hsg]at HSG;have HRM:=Zh (fun W(hh:Ext wr W)=>znJ (w:=W) hz0 hz1 l0 l1 h0);have hm0:=Int.emod_nonneg u h0;have hm1:=Int.emod_lt_of_pos u ((aa:0<v));have hgs:=znx u v;have HNX:Hid (Int.gcd v (u%v)=G/\Bd kk (u%v)/\0<=u%v/\u%v<v):=Zh ⟨by have:=HGC.out;omega,HBV.out.le aa,hm0,hm1⟩;generalize u%v=r at*
    clear hz0 hz1 hb0 hb1 hsg hgs hm0 hm1;go_wp2_with (go_at_call 126;refine(HSG.out _ Zi).mono ?_;rintro e w6 ⟨rfl,hs6⟩;have r1:w6.cell? ⟨p,0,none⟩=some (.bool g0):=(zk wr).trans HC0.out.1;have r2:w6.cell? ⟨p,1,none⟩=some (.slice B0 n0 c0):=(zk wr).trans HC0.out.2.1;have r3:w6.cell? ⟨p',0,none⟩=some (.bool g1):=(zk wr).trans HC1.out.1;have r4:w6.cell? ⟨p',1,none⟩=some (.slice B1 n1 c1):=(zk wr).trans HC1.out.2.1)
    have ap:Apart p p':=⟨hpp⟩;have ap':Apart p' p:=⟨fun e=>hpp e.symm⟩;go_region_with ((go_at_call 317;refine(HRM.out _ Zi).mono ?_;rintro e w7 ⟨g7,B7,k7,d7,rfl,hz7,hs7⟩;have s1:w7.cell? ⟨p,0,none⟩=some (.bool g0):=(zk wr).trans HC0.out.1;have s2:w7.cell? ⟨p,1,none⟩=some (.slice B0 n0 c0):=(zk wr).trans HC0.out.2.1;have s3:w7.cell? ⟨p',0,none⟩=some (.bool g1):=(zk wr).trans HC1.out.1;have s4:w7.cell? ⟨p',1,none⟩=some (.slice B1 n1 c1):=(zk wr).trans HC1.out.2.1;have f1:w7.frozen? ⟨p,0,none⟩=false:=(ZY wr).trans HC0.out.2.2.1;have f2:w7.frozen? ⟨p,1,none⟩=false:=(ZY wr).trans HC0.out.2.2.2;have f3:w7.frozen? ⟨p',0,none⟩=false:=(ZY wr).trans HC1.out.2.2.1;have f4:w7.frozen? ⟨p',1,none⟩=false:=(ZY wr).trans HC1.out.2.2.2))
    all_goals
     go_wp2_with fail
     go_roundg v.toNat
     case measure=>omega
     case rel=>
      have k0:BlkAt p #[.bool g0,.slice B0 n0 c0] 102 w7:=⟨zg (Zi:Ext wr w7) HK0.out⟩;have k1:BlkAt p' #[.bool g1,.slice B1 n1 c1] 102 w7:=⟨zg (Zi:Ext wr w7) HK1.out⟩;have k2:BlkAt (w.heap.size+1+1) #[.bool false,.slice none 0 0] 102 w7:=⟨zg (Zi:Ext wr w7) HR.out⟩;have a1:Apart (w.heap.size+1+1) p:=⟨aa⟩;have a2:Apart (w.heap.size+1+1) p':=⟨aa⟩;have tp:Typed p 102 w7:=⟨_,_,k0.eq⟩;have tp':Typed p' 102 w7:=⟨_,_,k1.eq⟩
      have nw:New p w:=⟨aa⟩;have nw':New p' w:=⟨aa⟩;exact⟨v,r,Zh ⟨g1,B1,n1,c1,BlkAt.eq,(HZ1.out.ext (Zi:Ext wr w7)).keeps⟩,Zh ⟨g7,B7,k7,d7,BlkAt.eq,hz7.keeps⟩,hv,HNX.out.2.2.1,HBV,Zh HNX.out.2.1,Zh HNX.out.1,by have:=HNX.out.2.2.2;omega,Zh BlkAt.eq,Zi⟩
theorem zcn{a b:List (List Int)}(ha:MatV w0 A a)(hb:MatV w1 B b)(h1:a.length=n)(h2:b.length=n)(h3:1<=n)(h4:n<=16)(hla:AllLen a n)(hlb:AllLen b n)(hk:k<=1000000000000)(hA:∀i j,Bd k (ent a i j))(hB:∀i j,Bd k (ent b i j))[hx:Ext w0 w][hy:Ext w1 w]:
  Cq 28 #[.slice A n c,.slice B n d] w (RetOwnI w n (ZN n a b)):=by
 have HM:=Zh (fun W(e1:Ext w W)=>have:Ext w0 W:=hx.trans e1;have:Ext w1 W:=hy.trans e1;znI (w:=W) (c:=c) (d:=d) ha hb h1 h2 h3 h4 hla hlb hk hA hB);go_enter Tryz.func28,Tryz.ntmps28;go_wp2_with (go_at_call 61;refine(HM.out _ Zi).mono ?_;rintro e w2 ⟨g,hs,cz,rfl,hO,zsL,zs3,hs2⟩)
 go_ret;exact⟨g,hs,cz,rfl,hO,zsL,zs3,Step.of _ _⟩
theorem JC(F:Nat->Nat->Int)(r c i j:Nat)(h:¬(i<r/\j<c)):ent (tab F r c) i j=0:=by
 unfold ent;by_cases hi:i<r
 ·have e:(tab F r c).getD i []=(List.range c).map fun y=>F i y:=by simp[List.getD,QT F r c i hi]
  rw[e,List.getD_eq_getElem?_getD,List.getElem?_eq_none (by simp;omega)];rfl
 ·have e:(tab F r c).getD i []=[]:=by
   rw[List.getD_eq_getElem?_getD,List.getElem?_eq_none (by rw[zr];omega)];rfl
  rw[e];rfl
theorem znL{a b:List (List Int)}(h4:n<=16)(hA:∀i j,Bd k (ent a i j))(hB:∀i j,Bd k (ent b i j))(i j:Nat):Bd (2*k+16) (ent (ZN n a b) i j):=by
 by_cases h:i<n/\j<n
 ·unfold ZN;rw[jp _ _ _ _ _ h.1 h.2];refine Bd.mono (zea (k:=2*k) (n:=n) (fun x _=>?_) n Zr) aa;have:=(hA i x).mul (hB x j);rwa [(aa:k+k=2*k)]at this
 ·have:ent (ZN n a b) i j=0:=JC _ _ _ _ _ h;rw[this];exact Bd.zero _
theorem zeb{a:List (List Int)}(hA:∀i j,Bd k (ent a i j))(i j:Nat):Bd k (ent (QK n a) i j):=by
 by_cases h:i<n/\j<n
 ·unfold QK;rw[jp _ _ _ _ _ h.1 h.2];exact hA j i
 ·have:ent (QK n a) i j=0:=JC _ _ _ _ _ h;rw[this];exact Bd.zero _
theorem zec{a t:List (List Int)}(ha:MatV w0 A a)(hb:MatV w1 B t)(h1:a.length=n)(h2:t.length=n)(h3:1<=n)(h4:n<=16)(hla:AllLen a n)(hlb:AllLen t n)(hk:k<=100000000000)(hA:∀i j,Bd k (ent a i j))(hB:∀i j,Bd k (ent t i j))[hx:Ext w0 w][hy:Ext w1 w]:
  Cq 25 #[.slice A n c,.slice B n d] w (RetOwnI w n (Zb n a t)):=by
 have HT:=Zh (fun W(e1:Ext w W)=>have:Ext w1 W:=hy.trans e1;zhm (w:=W) (c:=d) hb n h2 h3 h4 hlb (fun i j=>⟨k,aa,hB i j⟩));have HM1:Hid (∀(W1 W:World)(A1:Option Addr)(c1:Nat),MatV W1 A1 (QK n t)->Ext w W->Ext W1 W->Cq 28 #[.slice A1 n c1,.slice A n c] W (RetOwnI W n (ZN n (QK n t) a))):=Zh (fun W1 W A1 c1 hm e1 e2=>have:Ext w0 W:=hx.trans e1;zcn hm ha (zr _ _ _) h1 h3 h4 (Qa _ _ _) hla (k:=k) aa (zeb hB) hA)
 have HM2:Hid (∀(W1 W:World)(A1:Option Addr)(c1:Nat),MatV W1 A1 (ZN n (QK n t) a)->Ext w W->Ext W1 W->Cq 28 #[.slice A1 n c1,.slice B n d] W (RetOwnI W n (Zb n a t))):=Zh (fun W1 W A1 c1 hm e1 e2=>have:Ext w1 W:=hy.trans e1;zcn hm hb (zr _ _ _) h2 h3 h4 (Qa _ _ _) hlb (k:=2*k+16) aa (znL h4 (zeb hB) hA) (fun i j=>(hB i j).mono aa));have hl1:(QK n t).length=n:=zr _ _ _
 have hl2:(ZN n (QK n t) a).length=n:=zr _ _ _;have HL:=Zh (And.intro hl1 hl2);clear ha hb h1 h2 hla hlb hA hB hl1 hl2;go_enter Tryz.func25,Tryz.ntmps25;go_wp2_with (first
  |(go_at_call 58;refine(HT.out _ Zi).mono ?_;rintro e w2 ⟨g2,zxd,c2,rfl,hO2,-,-,hs2⟩;rw[HL.out.1];have hM2:=hO2.mat;clear hO2)
  |(go_at_call_of 28 (Value.slice A n c);refine(HM1.out _ _ _ _ hM2 Zi Zi).mono ?_;rintro e w3 ⟨g3,zvH,c3,rfl,hO3,-,-,hs3⟩;rw[HL.out.2];have hM3:=hO3.mat;clear hO3)
  |(go_at_call_of 28 (Value.slice B n d);refine(HM2.out _ _ _ _ hM3 Zi Zi).mono ?_;rintro e w4 ⟨g4,zvL,c4,rfl,hO4,q1,q2,hs4⟩))
 go_ret;have hss:w.heap.size<=w3.heap.size:=(Zi:Ext w w3).size;exact⟨g4,zvL,c4,rfl,⟨hO4.head,Nat.le_trans hss hO4.glo,hO4.len,hO4.dist,fun x hx=>⟨Nat.le_trans hss (hO4.new x hx).1,(hO4.new x hx).2⟩,hO4.all,hO4.row⟩,q1,q2,Step.of _ _⟩
theorem PartI.putG{zc:Nat}{hs:List (Nat×Nat)}{a:List (List Int)}(h:PartI w lo g n zc hs a)(hk:hs.length<zc){r:List Int}(zsJ:Oth 95 w w')
  (hv:VRow w' g 95 ((hs.map (z8 n)++List.replicate (zc-hs.length) (Value.slice none 0 0)).set hs.length (Value.slice (some ⟨b,0,none⟩) n c)))
  (hr:RowI w' b r) (hrl:r.length=n) (hb:lo<=b) (hc1:n<=c) (hc2:c<=9223372036854775807) (hd:∀p∈hs,p.1≠b):
  PartI w' lo g n zc (hs++[(b,c)]) (a++[r]):=by
 refine⟨?_,h.glo,by simp;omega,by simp[h.len],?_,?_,?_,?_⟩
 ·have e:(hs.map (z8 n)++List.replicate (zc-hs.length) (Value.slice none 0 0)).set hs.length (.slice (some ⟨b,0,none⟩) n c)=(hs++[(b,c)]).map (z8 n)++List.replicate (zc-(hs++[(b,c)]).length) (.slice none 0 0):=by
   obtain⟨t,ht⟩:∃t,zc-hs.length=t+1:=⟨zc-hs.length-1,aa⟩;have ht2:zc-(hs++[(b,c)]).length=t:=by simp;omega
   rw[ht,ht2,List.set_append_right _ _ af];simp[List.replicate_succ,z8]
  rw[e]at hv;exact hv
 ·intro i j p q hp hq hij;rcases Zl i hs.length with hi|hi
  ·rw[getElem?_append_left hi]at hp;rcases Zl j hs.length with hj|hj
   ·rw[getElem?_append_left hj]at hq;exact h.dist i j p q hp hq hij
   ·rw[getElem?_append_right hj]at hq;have:q=(b,c):=by
     have:=Zm hq;simpa using this
    subst this;exact hd p (Zm hp)
  ·rw[getElem?_append_right hi]at hp;have hi':i=hs.length:=by have:=(Zg.1 hp).1;simp at this;omega
   have:p=(b,c):=by
    have:=Zm hp;simpa using this
   subst this;rcases Zl j hs.length with hj|hj
   ·rw[getElem?_append_left hj]at hq;exact fun e=>hd q (Zm hq) e.symm
   ·rw[getElem?_append_right hj]at hq;have hj':j=hs.length:=by have:=(Zg.1 hq).1;simp at this;omega
    omega
 ·intro p hp;rcases mem_append.1 hp with hp|hp
  ·exact h.new p hp
  ·have:p=(b,c):=by simpa using hp
   subst this;exact⟨hb,hc1,hc2⟩
 ·intro x hx;rcases mem_append.1 hx with hx|hx
  ·exact h.all x hx
  ·have:x=r:=by simpa using hx
   subst this;exact hrl
 ·intro i p x hp hx;have hl:=h.len;rcases Zl i hs.length with hi|hi
  ·rw[getElem?_append_left hi]at hp;rw[getElem?_append_left aa]at hx;exact(h.row i p x hp hx).oth zsJ ac ac
  ·rw[getElem?_append_right hi]at hp;rw[getElem?_append_right aa]at hx;have e1:p=(b,c):=by
    have:=Zm hp;simpa using this
   have e2:x=r:=by
    have:=Zm hx;simpa using this
   subst e1 e2;exact hr
theorem Oth.below{T:TypeId}(h:Oth T w0 w)(hb:Below w0.heap.size w w'):Oth T w0 w':=fun b cs e fr hn hc=>
 (hb.block b (zi hc)).trans (h b cs e fr hn hc)
theorem Own.rowI(h:Own w ze 102 2 A n c vs)(hv:VsOf w vs zs)(hl:zs.length=n)(h0:0<n):∃b,A=some ⟨b,0,none⟩/\ze<=b/\RowI w b zs/\n<=c/\c<=9223372036854775807/\b<w.heap.size:=by
 have zsB:=h.cap;have zss:=h.len;rcases h.2 with ⟨_,hn⟩|⟨g,cap,cur,hv',h1,h2,h3,h4,h5,h6⟩
 ·omega
 ·injection hv' with hA
  refine⟨g,hA,h1,⟨cur.toList,?_,?_,fun i z hz=>?_⟩,zsB.1,zsB.2,zi h2⟩
  ·unfold VRow;rw[Array.toArray_toList];exact h2
  ·have:cur.toList.length=cap*2:=by rw[Array.length_toList];exact h5
   omega
  ·obtain⟨g',B,k,d,a1,a2,a3⟩:=hv i z hz;have hi:i<n:=by rw[<-hl];exact(Zg.1 hz).1
   refine⟨g',B,k,d,?_,?_,a3⟩
   ·rw[<-h6,List.getElem?_take]at a1;split at a1
    ·exact a1
    ·cases a1
   ·rw[<-h6,List.getElem?_take]at a2;split at a2
    ·exact a2
    ·cases a2
theorem VsOf.grow{e:TypeId}(h:VsOf w vs zs)(hg:Grow ze e w w')(h2:212≠e):VsOf w' vs zs:=h.map fun hz=>hz.grow hg h2
theorem zco{l:List Int}{q:Nat}(hq:q<l.length):l.take (q+1)=l.take q++[l.getD q 0]:=by
 rw[List.take_succ_eq_append_getElem hq];simp[List.getD,hq]
set_option maxRecDepth 10000 in
theorem zhn(h:MatV w0 A m)(zc n:Nat)(h1:m.length=zc)(h2:zc<=16)(h3:1<=n)(h4:n<=16)(hn:AllLen m n)(hbd:∀i j,∃k,k<=8000000000000/\Bd k (ent m i j))[hx:Ext w0 w]:
  Cq 73 #[.slice A zc c] w (RetOwnI w n m):=by
 have h0:=h.ext hx;have hmk:=ZH (P:=Tryz.prog) Tryz.underlying48 zad aa (zc:Int) aa aa;have HA:=Zh hn;have HB:=Zh hbd;have HL:=Zh h1;clear hn hbd h1;go_enter Tryz.func73,Tryz.ntmps73;go_wp2;go_loopw [4,6,12] (fun _ _ i wr=>∃(k:Nat) (hs:List (Nat×Nat)),k<=zc/\i= .int .i64 k/\Hid (hs.length=k)/\Hid (PartI wr w.heap.size w.heap.size n zc hs (m.take k))/\Ext w wr) (fun _ _ i _=>zc-(intOf i).toNat)
 case atStart=>exact⟨0,[],aa,rfl,Zh rfl,Zh (by simpa[Value.cells] using PartI.start w w.heap.size n zc Zr),Zi⟩
 case round=>
  obtain⟨k,hs,hk,rfl,HHL,HP,hxr⟩:=hrel;obtain⟨wo,rfl⟩:∃wo:World,wo=wr:=⟨_,rfl⟩;by_cases hlt:k<zc
  ·obtain⟨b,o,B,c0,rfl,hc0,hI0,hb0,-,-⟩:=h0.hdr HA.out (i:=k) (by rw[HL.out];exact hlt);have hc:=(hxr.below.cell (p:=⟨b,o+k,none⟩) hb0).trans hc0;have HI:=Zh hI0;have hgo:w.heap.size<wo.heap.size:=HP.out.head.lt;clear hc0 hI0;obtain⟨hd,hhd⟩:∃hd:List Value,hd=hs.map (z8 n)++List.replicate (zc-hs.length) (.slice none 0 0):=⟨_,rfl⟩;have hhl:hd.length=zc:=by rw[hhd];simp;have:=HP.out.le;omega
   have hv0:=HP.out.head;rw[<-hhd]at hv0;have HHD:=Zh hhd;have HHN:=Zh hhl;obtain⟨row,zsr⟩:=Xz (m.getD k []);rw[<-zsr]at HI;have HRL:Hid (row.length=n):=Zh (by rw[zsr];exact zcl HA.out (by rw[HL.out];exact hlt));have HRW:=Zh zsr;have zvM:hd.set k (.slice none 0 0)=hd:=by
    have e:hd[k]? =some (.slice none 0 0):=by
     rw[hhd,getElem?_append_right (by rw[length_map,HHL.out];exact Zr),length_map,HHL.out,Nat.sub_self,List.getElem?_replicate,if_pos aa]
    obtain⟨e1,e2⟩:=Zg.1 e;rw[<-e2];exact List.set_getElem_self e1
   have HS0:=Zh zvM;have HV0:=Zh hv0;clear hhd hhl zsr zvM hv0;go_wp2;go_loopw [6,20] (fun _ j wr=>∃(q:Nat) (A1:Option Addr) (c1:Nat) (vs:List Value),q<=n/\j= .int .i64 q/\Hid (VRow wr w.heap.size 95 (hd.set k (.slice A1 q c1)))/\Hid (Own wr wo.heap.size 102 2 A1 q c1 vs)/\Hid (VsOf wr vs (row.take q))/\Hid (Oth 95 wo wr)/\wo.heap.size<=wr.heap.size/\Ext w wr) (fun _ j _=>n-(intOf j).toNat)
   case atStart=>exact⟨0,none,0,[],aa,rfl,Zh (by rw[HS0.out];exact HV0.out),Zh (Own.nil _ _ _ _),Zh (fun i z hz=>by simp at hz),Zh (Oth.refl _ _),Zr,Zi⟩
   case round=>
    obtain⟨q,A1,c1,vs,hq,rfl,HV,HO,HVS,HOT,hsz,hxq⟩:=hrel;by_cases zsz:q<n
    ·obtain⟨b3,o3,g3,B3,n3,c3,rfl,hc3,hc4,hz3,hb3⟩:=(HI.out.ext hxq).atD (i:=q) (by rw[HRL.out];exact zsz);have zt0:n3<=1099511627776:=by
      obtain⟨kk,hk1,hk2⟩:=HB.out k q;have e:ent m k q=row.getD q 0:=by rw[HRW.out];rfl
      rw[e]at hk2;have:=hz3.bd hk2 hk1;omega
     have HN:=Zh (fun W(hh:Ext wr W)=>zfU (w:=W) hz3 zt0);have hkd:k<hd.length:=by rw[HHN.out];exact hlt
     have HHC:Hid (∀W,Ext wr W->W.heap[w.heap.size]? =some (.cells (hd.set k (.slice A1 q c1)).toArray 95 (0,0))/\W.cell? ⟨w.heap.size,k,none⟩=some (.slice A1 q c1)/\W.frozen? ⟨w.heap.size,k,none⟩=false/\w.heap.size<W.heap.size):=Zh (fun W hh=>⟨HV.out.ext hh,(HV.out.ext hh).cell (by rw[List.getElem?_set_self hkd]),(HV.out.ext hh).frozen _,(HV.out.ext hh).lt⟩);obtain⟨-,v1,v2,v3⟩:=HHC.out wr Zi;clear hz3 zt0
     go_wp2;go_region_law (first
      |((refine QS _ rfl (.tmp 29) (.tmp 32) 95 rfl wo.heap.size 102 (.agg #[.bool false,.slice none 0 0]) 2 32 Tryz.underlying95 j3 rfl ac ac A1 q c1 vs (by simp[Act.eval]) (HO.out.ext Zi) (some ⟨W5.heap.size,0,none⟩) 1 1 [.bool g5,.slice B5 k5 d5] (by simp[Act.eval]) ((Arr.new W5 102 #[.bool g5,.slice B5 k5 d5]).ext Zi) rfl (by simp[Value.oneCell']) aa (by have:=hs5.size;simp at this|-;omega) ?_);intro A6 d6 w6 zsx hg6;have hb6:=(hg6.below.block w.heap.size hgo).trans (HHC.out _ (Zi:Ext wr (W5.alloc (Obj.cells #[Value.bool g5,Value.slice B5 k5 d5] 102)))).1;have zt1:VRow w6 w.heap.size 95 (hd.set k (.slice A1 q c1)):=hb6;have r1:w6.cell? ⟨w.heap.size,k,none⟩=some (.slice A1 q c1):=zt1.cell (by rw[List.getElem?_set_self hkd]);have r2:w6.frozen? ⟨w.heap.size,k,none⟩=false:=zt1.frozen _;have r3:w.heap.size<w6.heap.size:=zt1.lt;have HV6:=Zh zt1;have HO6:=Zh zsx;have HG6:=Zh hg6;clear hb6 zt1 zsx hg6)
      |(go_simp;go_at_call 118;refine(HN.out _ Zi).mono ?_;rintro e W5 ⟨g5,B5,k5,d5,rfl,hz5,hs5⟩;obtain⟨-,t1,t2,t3⟩:=HHC.out W5 Zi))
     all_goals
      go_wp2;have hx5:Ext wr (W5.alloc (Obj.cells #[Value.bool g5,Value.slice B5 k5 d5] 102)):=Zi;refine⟨⟨q+1,A6,d6,vs++[.bool g5,.slice B5 k5 d5],aa,by go_num,Zh ?_,Zh ?_,Zh ?_,Zh ?_,?_,?_⟩,by simp[intOf]<;>omega⟩
      ·have:=HV6.out.set k (.slice A6 (q+1) d6);rwa [List.set_set]at this
      ·exact HO6.out.far (p:=⟨w.heap.size,k,none⟩) HV6.out ac _
      ·have hv5:VsOf (W5.alloc (Obj.cells #[Value.bool g5,Value.slice B5 k5 d5] 102)) (vs++[.bool g5,.slice B5 k5 d5]) (row.take q++[row.getD q 0]):=VsOf.snoc (HVS.out.map fun hz=>hz.ext hx5) (by rw[HO.out.len,List.length_take,HRL.out,Nat.min_eq_left hq]) (hz5.ext Zi);rw[zco (by rw[HRL.out];exact zsz)];exact(hv5.grow HG6.out ac).map fun hz=>hz.setCell (p:=⟨w.heap.size,k,none⟩) HV6.out ac _
      ·refine((HOT.out.trans (Oth.of_ext hx5)).below HG6.out.below).trans (Oth.set (p:=⟨w.heap.size,k,none⟩) HV6.out _)
      ·have h1:=HG6.out.below.size;have h2:=hx5.size;rw[ZE];omega
      ·exact(HG6.out.ext (hxq.trans hx5) hxr.size).setCell (p:=⟨w.heap.size,k,none⟩) Zr _
    ·obtain rfl:q=n:=aa
     go_wp2;obtain⟨b6,rfl,hb6,hR6,zul,zuW,zyf⟩:=HO.out.rowI (zs:=row) (by have:=HVS.out;rwa [List.take_of_length_le (by rw[HRL.out];exact Zr)]at this) HRL.out aa;have zs5:=HP.out.old;refine⟨⟨k+1,hs++[(b6,c1)],aa,by go_num,Zh (by simp[HHL.out]),Zh ?_,hxq⟩,by simp[intOf]<;>omega⟩;have:=HP.out.putG (r:=row) (c:=c1) (by rw[HHL.out];exact hlt) HOT.out (by rw[<-HHD.out,HHL.out];exact HV.out) hR6 HRL.out (by have:=hxr.size;omega) zul zuW (fun p hp=>by have:=zs5 p hp;omega)
     have e:m.take (k+1)=m.take k++[row]:=by
      have hkm:k<m.length:=by rw[HL.out];exact hlt
      rw[List.take_succ_eq_append_getElem hkm,HRW.out];simp[List.getD,hkm]
     rw[e];exact this
  ·obtain rfl:k=zc:=aa
   go_wp2;go_ret;have h1:=HP.out.done HHL.out;rw[List.take_of_length_le (by rw[HL.out];exact Zr)]at h1;exact⟨w.heap.size,hs,k,by rw[HL.out];rfl,h1,by rw[HL.out];exact Zr,aa,hxr.toStep⟩
theorem OwnI.far{hs:List (Nat×Nat)}{a:List (List Int)}(h:OwnI w lo g n hs a){cs:Array Value}(hp:w.heap[p]? =some (.cells cs 102 (0,0)))(hne:∀q∈hs,q.1≠p)(i j:Nat)(u v:Value):
  OwnI ((w.setCell ⟨p,i,none⟩ u).setCell ⟨p,j,none⟩ v) lo g n hs a:=by
 have hg:g≠p:=fun e=>by
  have h1:=h.head;unfold VRow at h1;rw[e,hp]at h1;injection h1 with h1
  injection h1 with _ h1
  exact absurd h1 ac
 exact⟨(h.head.far (p:=⟨p,i,none⟩) hg _).far (p:=⟨p,j,none⟩) hg _,h.glo,h.len,h.dist,h.new,h.all,fun x q r hq hr=>(h.row x q r hq hr).far2 hp (hne q (Zm hq)) _ _⟩
theorem OwnI.old{hs:List (Nat×Nat)}{a:List (List Int)}(h:OwnI w lo g n hs a):∀p∈hs,p.1<w.heap.size:=fun p hp=>by
 obtain⟨i,hi⟩:=List.getElem?_of_mem hp;obtain⟨r,hr⟩:∃r,a[i]? =some r:=⟨_,Ze (by have:=(Zg.1 hi).1;rw[<-h.len];exact this)⟩;exact(h.row i p r hi hr).lt
def Z3(k:Nat)(zd:Int)(a:List (List Int))(i j:Nat):Nat->Nat->Int:=fun x y=>if k<x/\k<y/\(x<i∨(x=i/\y<j)) then (ent a k k*ent a x y-ent a x k*ent a k y) / zd else ent a x y
theorem zho{a:List (List Int)}(hl:a.length=n)(ha:AllLen a n):tab (Z3 k zd a (k+1) (k+1)) n n=a:=by
 have h1:=Jl a n ha;rw[hl]at h1;conv=>rhs;rw[<-h1]
 refine ZC fun x y _ _=>?_
 unfold Z3;rw[if_neg aa];rfl
theorem zhp{a:List (List Int)}(hi:i<n)(hj:j<n)(hk:k<i)(hk2:k<j):zI (tab (Z3 k zd a i j) n n) i j ((ent a k k*ent a i j-ent a i k*ent a k j) / zd)=tab (Z3 k zd a i (j+1)) n n:=by
 rw[Qe hi hj];refine ZC fun x y _ _=>?_
 unfold Z3;by_cases h:x=i/\y=j
 ·rw[if_pos h,if_pos aa];obtain⟨rfl,rfl⟩:=h;rfl
 ·rw[if_neg h];by_cases h2:k<x/\k<y/\(x<i∨x=i/\y<j)
  ·rw[if_pos h2,if_pos aa]
  ·rw[if_neg h2,if_neg aa]
theorem zhq(n k i:Nat)(zd:Int)(a:List (List Int)):tab (Z3 k zd a i n) n n=tab (Z3 k zd a (i+1) (k+1)) n n:=
 ZC fun x y _ hy=>by
  unfold Z3;by_cases h2:k<x/\k<y/\(x<i∨x=i/\y<n)
  ·rw[if_pos h2,if_pos aa]
  ·rw[if_neg h2,if_neg aa]
theorem zhr(n k j:Nat)(zd:Int)(a:List (List Int)):tab (Z3 k zd a n j) n n=Qu n k zd a:=
 ZC fun x y hx _=>by
  unfold Z3;by_cases h2:k<x/\k<y
  ·rw[if_pos aa,if_pos h2]
  ·rw[if_neg aa,if_neg h2]
theorem JZ{x y:Nat}{a:List (List Int)}(hx:x<n)(hy:y<n)(h:x=k∨y=k∨(x=i/\y=j)):ent (tab (Z3 k zd a i j) n n) x y=ent a x y:=by
 rw[jp _ _ _ _ _ hx hy];unfold Z3;rw[if_neg aa]
structure DetI(n k b:Nat)(zd:Int)(neg:Bool)(a:List (List Int))(D:Int):Prop where
 eq:Qd n (n-k) k zd neg a=D
 l0:zd≠0
 bl:Bd (ZP b k) zd
 ba:BdM (ZP b k) a
theorem zed{s t:Nat}(h:s<=t):ZP b s<=ZP b t:=by
 unfold ZP;have:2^s<=2^t:=Nat.pow_le_pow_right aa h;have:=Nat.mul_le_mul_right (b+1) this;omega
structure DetP(n k b:Nat)(zd:Int)(neg:Bool)(a:List (List Int))(D:Int):Prop where
 eq:Qd n (n-(k+1)) (k+1) (ent a k k) neg (Qu n k zd a)=D
 l0:zd≠0
 p0:ent a k k≠0
 bl:Bd (ZP b k) zd
 ba:BdM (ZP b k) a
theorem znM{a:List (List Int)}(hp:p<n)(h0:ent a p k=0):ZO a k (n-p) p=ZO a k (n-(p+1)) (p+1):=by
 obtain⟨t,ht⟩:∃t,n-p=t+1:=⟨n-p-1,aa⟩;rw[ht,(aa:n-(p+1)=t)];simp[ZO,h0]
theorem znN{a:List (List Int)}(hp:p<n)(h0:ent a p k≠0):ZO a k (n-p) p=p:=by
 obtain⟨t,ht⟩:∃t,n-p=t+1:=⟨n-p-1,aa⟩;rw[ht];simp[ZO,h0]
theorem DetI.none{neg:Bool}{a:List (List Int)}(h:DetI n k b zd neg a D)(hk:k<n)(hp:ZO a k (n-k) k=n):D=0:=by
 have h1:=h.eq;obtain⟨t,ht⟩:∃t,n-k=t+1:=⟨n-k-1,aa⟩;rw[ht]at h1 hp;simp only[Qd]at h1;rw[show n-k=t+1 from ht,if_pos hp]at h1;exact h1.symm
theorem DetI.same{neg:Bool}{a:List (List Int)}(h:DetI n k b zd neg a D)(hk:k<n)(hp:ZO a k (n-k) k=k)(h0:ent a k k≠0):DetP n k b zd neg a D:=by
 have h1:=h.eq;obtain⟨t,ht⟩:∃t,n-k=t+1:=⟨n-k-1,aa⟩;rw[ht]at h1;simp only[Qd]at h1;rw[hp,if_neg aa,if_neg aa]at h1;refine⟨?_,h.l0,h0,h.bl,h.ba⟩;rw[(aa:n-(k+1)=t)];exact h1
theorem DetI.swap{neg:Bool}{a:List (List Int)}(h:DetI n k b zd neg a D)(hl:a.length=n)(hk:k<p)(hpn:p<n)(hp:ZO a k (n-k) k=p)(h0:ent a p k≠0):DetP n k b zd (!neg) (jn a p k) D:=by
 have h1:=h.eq;obtain⟨t,ht⟩:∃t,n-k=t+1:=⟨n-k-1,aa⟩;rw[ht]at h1;simp only[Qd]at h1;rw[hp,if_neg aa,if_pos aa]at h1;refine⟨?_,h.l0,?_,h.bl,h.ba.swap aa aa⟩
 ·rw[(aa:n-(k+1)=t)];exact h1
 ·rw[zd6 aa aa,if_pos rfl];exact h0
theorem DetP.next{neg:Bool}{a:List (List Int)}(h:DetP n k b zd neg a D):DetI n (k+1) b (ent a k k) neg (Qu n k zd a) D:=
 ⟨h.eq,h.p0,(h.ba k k).mono (zed aa),by rw[zd7];exact h.ba.elim n k zd⟩
theorem DetI.done{neg:Bool}{a:List (List Int)}(h:DetI n n b zd neg a D):D=if neg then-zd else zd:=by
 have h1:=h.eq;rw[Nat.sub_self]at h1;exact h1.symm
end Go.Proofs.YtgoaelchibpffaaGreat

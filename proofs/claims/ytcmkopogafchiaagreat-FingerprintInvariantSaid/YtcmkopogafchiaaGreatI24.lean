import Derived.Test.YtcmkopogafchiaaGreatI23
import Derived.Test.YtcmkopogafchiaaGreatISc
set_option maxHeartbeats 8000000
set_option linter.unusedVariables false
set_option linter.unusedSimpArgs false
namespace Go.Proofs.YtcmkopogafchiaaGreat
open Go.RowKit
open List (map_map map_append getElem?_map length_append getElem?_take length_map)
variable {cs cur:Array Value} {u:Int} {L m:List (List Int)} {x y:List Int} {vs:List Value} {b c cnt d dc g k mb n nc r sb size zf:Nat} {fr:Nat×Nat} {A DA LA NA X:Option Addr} {T:TypeId} {LV:Value} {W a w w' w0 wr:World}
def GrowD(w w':World):Prop:=∃q os,w'=Sort.grow (w.drewN q) os
theorem GrowD.refl(w:World):GrowD w w:=⟨0,#[],by simp[Sort.grow,World.drewN]⟩
theorem GrowD.trans{b c:World}(h:GrowD a b)(h':GrowD b c):GrowD a c:=by
 obtain⟨q,os,rfl⟩:=h;obtain⟨q',os',rfl⟩:=h';refine⟨q+q',os++os',?_⟩;rw[<-World.drewN_drewN,<-Sort.grow_grow];rfl
theorem GrowD.drew(w:World)(n:Nat):GrowD w (w.drewN n):=⟨n,#[],by simp[Sort.grow];rfl⟩
theorem GrowD.ext(h:GrowD w w'):Ext w w':=by
 have:=zdx h;infer_instance
theorem zqj{p q:List Ct}{x y:Ct}(hp:p[k]? =some x)(hq:q[k]? =some y):Zw (p.drop k) (q.drop k)=if x=y then Zw (p.drop (k+1)) (q.drop (k+1)) else Z7 x y:=by
 obtain⟨h1,rfl⟩:=Zg.1 hp;obtain⟨h2,rfl⟩:=Zg.1 hq;rw[List.drop_eq_getElem_cons h1,List.drop_eq_getElem_cons h2];conv=>lhs;unfold Zw
theorem zqk{p q:List Ct}(h:k=p.length∨k=q.length)(h1:k<=p.length)(h2:k<=q.length):Zw (p.drop k) (q.drop k)=zm (p.length:Int) (q.length:Int):=by
 rcases Nat.lt_trichotomy p.length q.length with h3|h3|h3
 ·rw[List.drop_eq_nil_of_le (by omega:p.length<=k),List.drop_eq_getElem_cons (by omega:k<q.length),qn (by omega)];rfl
 ·rw[List.drop_eq_nil_of_le (by omega:p.length<=k),List.drop_eq_nil_of_le (by omega:q.length<=k),Qd (by omega)];rfl
 ·rw[List.drop_eq_nil_of_le (by omega:q.length<=k),List.drop_eq_getElem_cons (by omega:k<p.length),qM (by omega)];rfl
theorem zi5{B:Option Addr}{p q:List Ct}(hA:CtV w A p)(hB:CtV w B q)(h1:p.length<=1099511627776)(_:q.length<=1099511627776):
  Cq 42 #[.slice A p.length c,.slice B q.length d] w fun e w'=>e= .returned (.int .i64 (Zw p q))/\GrowD w w':=by
 have HC:=Zh (fun W=>ziX (w:=W) (p.length:Int) (q.length:Int));obtain⟨n,hn⟩:=Xz p.length;obtain⟨m,hm⟩:=Xz q.length;have HN:=Zh (And.intro hn hm);rw[<-hn]at h1 HC|-
 rw[<-hm]at HC|-
 clear hn hm;obtain⟨L,hL⟩:∃L:Nat,L=min n m:=⟨_,rfl⟩;have hL2:min (n:Int) (m:Int)=(L:Int):=by omega
 go_enter Tryz.func42,Tryz.ntmps42;go_wp2_with fail
 try rw[hL2]
 go_loopw [5,11] (fun _ i wr=>∃k:Nat,k<=L/\i= .int .i64 k/\Hid (Zw p q=Zw (p.drop k) (q.drop k))/\GrowD w wr) (fun _ i _=>L-(intOf i).toNat)
 case atStart=>exact⟨0,by omega,rfl,Zh rfl,GrowD.refl _⟩
 case round=>
  obtain⟨k,hk1,rfl,HE,hG⟩:=hrel;have hxw:Ext w wr:=hG.ext;by_cases hk:k<L
  ·obtain⟨⟨⟨x1,x2⟩,x3⟩,hxx⟩:∃z,p[k]? =some z:=⟨_,Ze (by have:=HN.out.1;omega)⟩;obtain⟨⟨⟨y1,y2⟩,y3⟩,hyy⟩:∃z,q[k]? =some z:=⟨_,Ze (by have:=HN.out.2;omega)⟩;obtain⟨b1,o1,rfl,e1,e2,e3,e4⟩:=(hA.ext hxw).at_ hxx;obtain⟨b2,o2,rfl,f1,f2,f3,f4⟩:=(hB.ext hxw).at_ hyy;simp only at e1 e2 e3 f1 f2 f3;have hst:=zqj hxx hyy;rw[<-HE.out]at hst;have HST:=Zh hst;have hkn:k<n:=by omega
   have hkm:k<m:=by omega
   clear hst hxx hyy HE;by_cases hxy:((x1,x2),x3)=(((y1,y2),y3):Ct)
   ·have HS2:Hid (Zw p q=Zw (p.drop (k+1)) (q.drop (k+1))):=Zh (by have:=HST.out;rwa [if_pos hxy]at this);simp only[Prod.mk.injEq]at hxy;obtain⟨⟨rfl,rfl⟩,rfl⟩:=hxy;clear HST;go_wp2_with fail
    go_quiet (fail)
    go_wp2_with fail
    exact⟨⟨k+1,by omega,by go_num,HS2,hG.trans (GrowD.drew _ _)⟩,by simp[intOf];omega⟩
   ·have HS2:Hid (Zw p q=Z7 ((x1,x2),x3) ((y1,y2),y3)):=Zh (by have:=HST.out;rwa [if_neg hxy]at this);have HB:=Zh (fun W=>ziY (w:=W) ((x1,x2),x3) ((y1,y2),y3));have hor:=zi0 hxy;simp only at hor;generalize Z7 ((x1,x2),x3) ((y1,y2),y3)=r at*
    clear HST hxy;have oX:Old b1 wr:=⟨e4⟩;have oY:Old b2 wr:=⟨f4⟩;rcases hor with g1|⟨g1,g2⟩|⟨g1,g2,g3⟩<;>
    ·go_wp2_with fail
     go_quiet (fail)
     go_wp2_with fail
     go_region_held3 (fun w'=>(w'.cell? ⟨b1,o1+k*3,none⟩=some (.int .i64 x1)/\w'.cell? ⟨b1,o1+k*3+1,none⟩=some (.int .i64 x2)/\w'.cell? ⟨b1,o1+k*3+2,none⟩=some (.int .i64 x3))/\w'.cell? ⟨b2,o2+k*3,none⟩=some (.int .i64 y1)/\w'.cell? ⟨b2,o2+k*3+1,none⟩=some (.int .i64 y2)/\w'.cell? ⟨b2,o2+k*3+2,none⟩=some (.int .i64 y3)) ((simp only[zh wr];exact⟨⟨e1,e2,e3⟩,f1,f2,f3⟩))
      ((go_at_call 65;refine(HB.out _).mono ?_;rintro e w1 ⟨rfl,hq1⟩;have hs1:=zdx hq1))
     all_goals
      have hG1:GrowD w w1:=(hG.trans (GrowD.drew wr _)).trans hq1;go_wp2_with fail
      go_ret;exact⟨by rw[HS2.out];rfl,hG1⟩
  ·obtain rfl:k=L:=by omega
   have HV:Hid (Zw p q=zm (n:Int) (m:Int)):=Zh (by
    rw[HE.out,HN.out.1,HN.out.2];have h3:=HN.out.1;have h4:=HN.out.2;exact zqk (by omega) (by omega) (by omega))
   generalize zm (n:Int) (m:Int)=r at*
   clear hk HE;go_wp2_with (go_at_call 69;refine(HC.out _).mono ?_;rintro e w1 ⟨rfl,rfl⟩)
   go_ret;exact⟨by rw[HV.out];rfl,hG⟩
theorem Qu{x y z:Value}(h:w.heap[b]? =some (.cells #[x,y,z] T (0,0))):(w.cell? ⟨b,0,none⟩=some x/\w.cell? ⟨b,1,none⟩=some y/\w.cell? ⟨b,2,none⟩=some z)/\(w.frozen? ⟨b,0,none⟩=false/\w.frozen? ⟨b,1,none⟩=false/\w.frozen? ⟨b,2,none⟩=false)/\b<w.heap.size:=
 ⟨⟨by simp[World.cell?,h],by simp[World.cell?,h],by simp[World.cell?,h]⟩,⟨by simp[World.frozen?,h],by simp[World.frozen?,h],by simp[World.frozen?,h]⟩,zD h⟩
def zcN(w:World)(ns:List Int)(a:Nat)(n:Int)(e:Ending)(w':World):Prop:=
 ∃k:Nat,e= .returned (.int .i64 k)/\a<k/\k<=ns.length/\(∀j x,a<=j->j<k->ns[j]? =some x->x=n)/\(∀x,ns[k]? =some x->x≠n)/\Step w w'
theorem zi6{a len:Nat}{n:Int}{ns:List Int}{SL SD:Value}(hN:Ints w0 NA 2 .i64 ns)(hn:ns[a]? =some n)(hln:ns.length=len)(hl:len<=1099511627776)[hx:Ext w0 w]:
  Cq 40 #[.agg #[SL,.slice NA len nc,SD],.int .i64 a] w (zcN w ns a n):=by
 have hal:a<len:=by have:=(Zg.1 hn).1;omega
 obtain⟨b,o,n',rfl,hn',c0,hb⟩:=(hN.ext hx).at_ (i:=a) (by omega);obtain rfl:n=n':=by rw[hn]at hn';injection hn'
 have HNS:=Zh hN;have HNA:=Zh hn;have HLN:=Zh hln;have oB:Old b w:=⟨hb⟩;unfold zcN;clear hN hn hn' hln;go_enter Tryz.func40,Tryz.ntmps40;go_wp2_with fail
 go_loopw [5] (fun e wr=>∃k:Nat,a<k/\k<=len/\e= .int .i64 k/\Hid (∀j x,a<=j->j<k->ns[j]? =some x->x=n)/\Ext (w.alloc (.cells #[SL,.slice (some ⟨b,o,none⟩) len nc,SD] 70)) wr) (fun e _=>len-(intOf e).toNat)
 case atStart=>exact⟨a+1,by omega,by omega,by go_num,Zh (fun j x h1 h2 hj=>by
  obtain rfl:j=a:=by omega
  rw[HNA.out]at hj;injection hj with hj
  exact hj.symm),Zi⟩
 case round=>
  obtain⟨k,hk1,hk2,rfl,HP,hxr⟩:=hrel;obtain⟨⟨-,c1,-⟩,-,-⟩:=Qu (zk hxr (heap_alloc_new w _));have hxw:Ext w wr:=Ext.trans Zi hxr;have c2:wr.cell? ⟨b,o+a,none⟩=some (.int .i64 n):=(zh w).trans c0;by_cases hk:k<len
  ·obtain⟨b',o',x,hA,hkx,c3,-⟩:=(HNS.out.ext (hx.trans hxw)).at_ (i:=k) (by rw[HLN.out];exact hk);injection hA with hA
   injection hA with z1 z2
   subst z1 z2;have HKX:=Zh hkx;clear hkx;by_cases hxn:x=n
   ·subst hxn;have HP2:Hid (∀j y,a<=j->j<k+1->ns[j]? =some y->y=x):=Zh (fun j y h1 h2 hj=>by
     rcases Zl j k with h|h
     ·exact HP.out j y h1 h hj
     ·obtain rfl:j=k:=by omega
      rw[HKX.out]at hj;injection hj with hj
      exact hj.symm)
    go_wp2_with fail
    go_quiet (fail)
    go_wp2_with fail
    exact⟨⟨k+1,by omega,by omega,by go_num,HP2,hxr.trans Zi⟩,by simp[intOf];omega⟩
   ·have hd:(x==n)=false:=by simp[hxn]
    have HNE:Hid (∀y,ns[k]? =some y->y≠n):=Zh (fun y hy=>by
     rw[HKX.out]at hy;injection hy with hy
     rw[<-hy];exact hxn)
    clear hxn;go_wp2_with fail
    go_quiet (fail)
    go_wp2_with fail
    go_ret;exact⟨k,rfl,hk1,by rw[HLN.out];exact hk2,HP.out,HNE.out,(hxw.trans Zi).toStep⟩
  ·obtain rfl:k=len:=by omega
   have hkd:decide ((k:Int)<(k:Int))=false:=by simp
   clear hk;go_wp2_with fail
   go_quiet (fail)
   go_wp2_with fail
   go_ret;exact⟨k,rfl,hk1,by rw[HLN.out];exact Zr,HP.out,(fun y hy=>by rw[List.getElem?_eq_none (by rw[HLN.out];exact Zr)]at hy;cases hy),(hxw.trans Zi).toStep⟩
theorem zql(a t:Int):IntKind.i64.wrap (a+18446744073709551616*t)=IntKind.i64.wrap a:=by simp only[IntKind.wrap_i64];omega
theorem zqm(a b:Int):IntKind.i64.wrap (IntKind.i64.wrap a*b)=IntKind.i64.wrap (a*b):=by
 obtain⟨t,ht⟩:∃t,IntKind.i64.wrap a=a+18446744073709551616*t:=⟨-((a+9223372036854775808) / 18446744073709551616),by simp only[IntKind.wrap_i64];omega⟩;rw[ht,Int.add_mul,Int.mul_assoc,zql]
theorem zi7:∀l x:List Int,qf (l.map IntKind.i64.wrap) x=qf l x
 |[],x=>rfl
 |a::l,[]=>rfl
 |a::l,b::x=>by
  have ih:=zi7 l x;unfold qf at*
  simp only[List.map_cons,zC];have h1:∀s t:Int,IntKind.i64.wrap (s+t)=IntKind.i64.wrap (s+IntKind.i64.wrap t):=fun s t=>(zi3 s t).symm
  rw[h1,ih,<-h1,<-zeQ,zqm,zeQ]
theorem zqn(m:List (List Int))(x:List Int):ZH m x=(zV m x).map IntKind.i64.wrap:=by
 unfold ZH zV;rw[map_map];rfl
theorem zi8(m:List (List Int))(y x:List Int):qf (ZH m y) x=qf (zV m y) x:=by rw[zqn,zi7]
theorem zqo(h:-9223372036854775808<=zi m y/\zi m y<=9223372036854775807):qf (ZH m y) y=zi m y:=by
 rw[zi8];unfold qf;rw[zdU];exact IntWalk.i64_in _ h
structure SysV(w:World)(m L:List (List Int))(LA NA DA:Option Addr):Prop where
 list:Mat64 w LA L
 norms:Ints w NA 2 .i64 (L.map (zi m))
 duals:Mat64 w DA (L.map (ZH m))
theorem SysV.ext(h:SysV w m L LA NA DA)(hx:Ext w w'):SysV w' m L LA NA DA:=⟨h.list.ext hx,h.norms.ext hx,h.duals.ext hx⟩
structure SysI(m L:List (List Int))(wr:World)(sb:Nat)(LV:Value)(NA DA:Option Addr)(k nc dc:Nat)(vs:List Value):Prop where
 st:wr.heap[sb]? =some (.cells #[LV,.slice NA k nc,.slice DA k dc] 70 (0,0))
 ni:Own wr sb 2 1 NA k nc ((L.take k).map fun y=> .int .i64 (zi m y))
 di:Own wr sb 28 1 DA k dc vs
 row:∀i y,i<k->L[i]? =some y->∃B c,vs[i]? =some (.slice B m.length c)/\ArrN NA wr B 2 ((ZH m y).map (Value.int .i64))/\m.length<=c/\c<=9223372036854775807
structure SysJ(m L:List (List Int))(wr:World)(sb:Nat)(LV:Value)(NA DA:Option Addr)(k nc dc:Nat)(vs:List Value)(g:Nat)(y:List Int):Prop where
 st:wr.heap[sb]? =some (.cells #[LV,.slice NA k nc,.slice DA (k+1) dc] 70 (0,0))
 ni:Own wr sb 2 1 NA k nc ((L.take k).map fun y=> .int .i64 (zi m y))
 di:Own wr sb 28 1 DA (k+1) dc (vs++[.slice (some ⟨g,0,none⟩) m.length m.length])
 row:∀i y,i<k->L[i]? =some y->∃B c,vs[i]? =some (.slice B m.length c)/\ArrN NA wr B 2 ((ZH m y).map (Value.int .i64))/\m.length<=c/\c<=9223372036854775807
 new:ArrN NA wr (some ⟨g,0,none⟩) 2 ((ZH m y).map (Value.int .i64))
theorem SysI.step1{w3:World}{d3:Nat}{A3:Option Addr}(hI:SysI m L wr sb LV NA DA k nc dc vs)(hx:Ext wr W)(zsC:Row W g 2 .i64 (ZH m y))(hg:wr.heap.size<=g)
  (zsA:Own w3 sb 28 1 A3 (k+1) d3 (vs++[.slice (some ⟨g,0,none⟩) m.length m.length])) (hgr:Grow sb 28 W w3):SysJ m L (w3.setCell ⟨sb,2,none⟩ (.slice A3 (k+1) d3)) sb LV NA A3 k nc d3 vs g y:=by
 have hB3:=hgr.heap (zk hx hI.st) (by decide);have hoS:=Oth.set (p:=⟨sb,2,none⟩) hB3 (.slice A3 (k+1) d3);refine⟨by rw[Zs hB3];rfl,((hI.ni.ext hx).grow hgr (by decide)).oth hoS (by decide),zsA.oth hoS (by decide),fun i y hi hy=>?_,?_⟩
 ·obtain⟨B,c,a,b,e⟩:=hI.row i y hi hy;exact⟨B,c,a,((b.ext hx).oth (Oth.of_grow hgr) (by decide)).oth hoS (by decide),e⟩
 ·have hlt:=hI.ni.blockLt;have zxP:ArrN NA W (some ⟨g,0,none⟩) 2 ((ZH m y).map (Value.int .i64)):=fun _=>⟨g,0,_,_,rfl,fun a ha=>by have:=hlt a ha;omega,zsC,fun j u hu=>by simpa using hu⟩
  exact(zxP.oth (Oth.of_grow hgr) (by decide)).oth hoS (by decide)
theorem SysJ.step2{w4 w6:World}{d6:Nat}{A6:Option Addr}(hJ:SysJ m L w4 sb LV NA DA k nc dc vs g y)(hy:L[k]? =some y)(hml:m.length<=1000)(hx:Ext w4 W)
  (zsA:Own w6 sb 2 1 A6 (k+1) d6 (((L.take k).map fun y=> .int .i64 (zi m y))++[.int .i64 (zi m y)])) (hg:Grow sb 2 W w6) (hgr:Grew NA A6 W w6):SysI m L (w6.setCell ⟨sb,1,none⟩ (.slice A6 (k+1) d6)) sb LV A6 DA (k+1) d6 dc (vs++[.slice (some ⟨g,0,none⟩) m.length m.length]):=by
 have hB6:=hg.heap (zk hx hJ.st) (by decide);have hoS:=Oth.set (p:=⟨sb,1,none⟩) hB6 (.slice A6 (k+1) d6);have hvl:vs.length=k:=by have:=hJ.di.len;simp at this;omega
 refine⟨by rw[Zs hB6];rfl,?_,((hJ.di.ext hx).grow hg (by decide)).oth hoS (by decide),fun i y' hi hy'=>?_⟩
 ·have e:L.take (k+1)=L.take k++[y]:=by rw[List.take_add_one,hy];rfl
  rw[e,map_append];exact zsA.oth hoS (by decide)
 ·rcases Zl i k with h|h
  ·obtain⟨B,c,a,b,e⟩:=hJ.row i y' h hy';exact⟨B,c,by rw[List.getElem?_append_left (by omega)];exact a,((b.ext hx).grew hgr).oth hoS (by decide),e⟩
  ·obtain rfl:i=k:=by omega
   obtain rfl:y=y':=by rw[hy]at hy';injection hy'
   exact⟨_,m.length,by rw[List.getElem?_append_right (by omega),hvl];simp,((hJ.new.ext hx).grew hgr).oth hoS (by decide),Zr,by omega⟩
theorem SysI.sys(hI:SysI m L wr sb LV NA DA L.length nc dc vs)(hL:Mat64 W LA L)(ho:Oth 70 wr W):SysV W m L LA NA DA:=by
 refine⟨hL,?_,vs,by have:=hI.di.len;simp;omega,(hI.di.oth ho (by decide)).arr,fun i r hr=>?_⟩
 ·have h:=(hI.ni.oth ho (by decide)).arr;rw[List.take_length]at h;show Arr _ _ _ _;rw[map_map];exact h
 ·rw[getElem?_map]at hr;obtain⟨y,hy,rfl⟩:∃y,L[i]? =some y/\ZH m y=r:=by
   cases hh:L[i]? with
   |none=>rw[hh]at hr;cases hr
   |some y=>rw[hh]at hr;exact⟨y,rfl,by simpa using hr⟩
  obtain⟨B,c,a,b,e⟩:=hI.row i y (Zg.1 hy).1 hy;have hl:(ZH m y).length=m.length:=by simp[ZH]
  exact⟨B,c,by rw[hl];exact a,(b.oth ho (by decide)).arr,by rw[hl];exact e.1,e.2⟩
def zbD(w:World)(P:List (List Int)->Prop)(e:Ending)(w':World):Prop:=∃B d L s,e= .returned (.tuple #[.slice B (List.length L) d,s,.int .i64 0])/\Mat64 w' B L/\L.length<=d/\d<=9223372036854775807/\P L/\Step w w'
def zaQ(w:World)(m:List (List Int))(P:List (List Int)->Prop)(e:Ending)(w':World):Prop:=
 ∃LA NA DA lc nc dc L,e= .returned (.tuple #[.agg #[.slice LA (List.length L) lc,.slice NA L.length nc,.slice DA L.length dc],.int .i64 0])/\SysV w' m L LA NA DA/\P L/\L.length<=lc/\lc<=9223372036854775807/\L.length<=nc/\nc<=9223372036854775807/\L.length<=dc/\dc<=9223372036854775807/\Step w w'
set_option maxRecDepth 20000 in
theorem zi9{b:Int}{P:List (List Int)->Prop}(hM:MatA w0 A m)(hml:m.length<=1000)(zsD:∀r∈m,r.length<=m.length)
  (ztG:∀W,Ext w0 W->Cq 60 #[.slice A m.length c,.int .i64 b,.int .i64 u] W (zbD W P))
  (hP:∀L,P L->L.length<=100000/\(∀y∈L,y.length=m.length)/\∀y∈L,-9223372036854775808<=zi m y/\zi m y<=9223372036854775807) [hx:Ext w0 w]:
  Cq 35 #[.slice A m.length c,.int .i64 b,.int .i64 u] w (zaQ w m P):=by
 have HV:=Zh ztG;have HPP:=Zh hP;have HMA:=Zh hM;have HAL:=Zh zsD;obtain⟨n,hn⟩:=Xz m.length;have HN:=Zh hn;rw[<-hn]at hml HV|-
 unfold zaQ;clear ztG hP hM zsD hn;go_enter Tryz.func35,Tryz.ntmps35;go_wp2_with (go_at_call 60;refine(HV.out _ Zi).mono ?_;rintro e w1 ⟨LA,lc,L,s,rfl,hL,hl1,hl2,hPL,hs1⟩)
 obtain⟨hL8,hLr,hLn⟩:=HPP.out L hPL;obtain⟨q,hq⟩:=Xz L.length;have HQ:=Zh hq;rw[<-hq]at hL8 hl1|-
 have HL:=Zh hL;have HPL:=Zh hPL;have HLR:=Zh hLr;have zsp:=Zh hLn;have zti:Ext w w1:=Zi;have ztQ:Ext w0 w1:=Zi;clear hq hL hPL hLr hLn HPP HV;go_loopw [13,14,31] (fun _ _ i wr=>∃(k:Nat) (NA DA:Option Addr) (nc dc:Nat) (vs:List Value),k<=q/\i= .int .i64 k/\Hid (SysI m L wr w1.heap.size (.slice LA q lc) NA DA k nc dc vs)/\Ext w1 wr) (fun _ _ i _=>q-(intOf i).toNat)
 case atStart=>
  exact⟨0,none,none,0,0,[],by omega,rfl,Zh ⟨heap_alloc_new w1 _,Own.nil _ _ _ _,Own.nil _ _ _ _,fun i y hi=>absurd hi (by omega)⟩,Zi⟩
 case round=>
  obtain⟨k,NA,DA,nc,dc,vs,hk,rfl,HI,hxr⟩:=hrel;have ztf:Ext w0 wr:=ztQ.trans hxr;by_cases hlt:k<q
  ·obtain⟨y,hy⟩:∃y,L[k]? =some y:=⟨_,Ze (by rw[<-HQ.out];exact hlt)⟩;have hyn:y.length=n:=by rw[HN.out];exact HLR.out y (Zm hy)
   obtain⟨bb,bo,B,c1,rfl,e0,hB,e2,e3,e4⟩:=HL.out.a.at_ hy;rw[hyn]at e0 e2;have oB1:Old bb w1:=⟨e4⟩;have e1:wr.cell? ⟨bb,bo+k,none⟩=some (.slice B n c1):=(zh w1).trans e0;have oB:Old bb wr:=⟨Nat.lt_of_lt_of_le e4 hxr.size⟩;have HAP:Hid (∀W,Ext wr W->Cq 61 #[.slice A n c,.slice B n c1] W (zeS W (ZH m y))):=Zh (fun W e=>by
    have h:=zqi (w0:=W) (w:=W) (c:=c) (d:=c1) (HMA.out.ext (ztf.trans e)) (hB.ext (hxr.trans e)) hyn (fun r hr=>by rw[HN.out];exact HAL.out r hr) (by omega) (by rw[<-HN.out];omega);rwa [<-HN.out]at h)
   have hlA:(ZH m y).length=n:=by rw[HN.out];simp[ZH]
   have HDT:Hid (∀W g,Ext w1 W->Row W g 2 .i64 (ZH m y)->Cq 62 #[.slice (some ⟨g,0,none⟩) n n,.slice B n c1] W (Zu W (.int .i64 (zi m y)))):=Zh (fun W g e hr=>by
    have h:=zeR (w0:=W) (w:=W) (c:=n) (d:=c1) ⟨_,hr.ints⟩ (hB.ext e) hlA hyn Zr (by omega);rwa [zqo (zsp.out y (Zm hy))]at h)
   obtain⟨⟨s1,s2,s3⟩,⟨t1,t2,t3⟩,s4⟩:=Qu HI.out.st;have oS:Old w1.heap.size wr:=⟨s4⟩;have HY:=Zh hy;have HLA:=Zh hlA;unfold zeS at HAP;rw[hlA]at HAP;generalize hYY:ZH m y=Y at*
   clear hB hy hlA;go_upto_region 10 with (first
    |(go_at_call 61;refine(HAP.out _ Zi).mono ?_;rintro e w2 ⟨rfl,hR2,hs2⟩;have HR2:=Zh hR2;clear hR2)
    |(at_builtin;go_loud (refine zM _ rfl _ _ 25 rfl w1.heap.size 28 (.slice none 0 0) 1 24 Tryz.underlying25 qW rfl (by omega) (by omega) DA k dc vs rfl (HI.out.di.ext Zi) (some ⟨w2.heap.size,0,none⟩) 1 1 [.slice (some ⟨wr.heap.size,0,none⟩) n n] rfl (Arr.new w2 28 #[.slice (some ⟨wr.heap.size,0,none⟩) n n]) (by simp) (by simp[Value.oneCell']) (by omega) (by have:=hxr.size;have:=hs2.size;simp;omega) ?_);intro A3 d3 w3 zsA hg;have hb3:=hg.heap (zk (Zi:Ext wr (w2.alloc (.cells #[.slice (some ⟨wr.heap.size,0,none⟩) n n] 28))) HI.out.st) (by decide);obtain⟨⟨q1,q2,q3⟩,⟨p1,p2,p3⟩,q4⟩:=Qu hb3;have HB3:=Zh hb3;clear hb3))
   have hx2:Ext wr (w2.alloc (.cells #[.slice (some ⟨wr.heap.size,0,none⟩) n n] 28)):=Zi;have hJ:=HI.out.step1 (y:=y) (g:=wr.heap.size) hx2 (by rw[hYY];exact zk (Zi:Ext w2 (w2.alloc (.cells #[.slice (some ⟨wr.heap.size,0,none⟩) n n] 28))) HR2.out) Zr (by rw[<-HN.out];exact zsA) hg;have hx4:Ext w1 (w3.setCell ⟨w1.heap.size,2,none⟩ (.slice A3 (k+1) d3)):=(hg.ext (hxr.trans hx2) Zr).setCell (p:=⟨w1.heap.size,2,none⟩) Zr _
   have hR4:Row (w3.setCell ⟨w1.heap.size,2,none⟩ (.slice A3 (k+1) d3)) wr.heap.size 2 .i64 Y:=(Oth.set (p:=⟨w1.heap.size,2,none⟩) HB3.out (.slice A3 (k+1) d3)) _ _ _ _ (by decide) (hg.heap (zk (Zi:Ext w2 (w2.alloc (.cells #[.slice (some ⟨wr.heap.size,0,none⟩) n n] 28))) HR2.out) (by decide));have zyX:Ext w1 wr:=hxr;generalize w3.setCell ⟨w1.heap.size,2,none⟩ (.slice A3 (k+1) d3)=w4 at hJ hx4 hR4|-
   clear zsA hg HB3 q1 q2 q3 q4 p1 p2 p3 s1 s2 s3 t1 t2 t3 s4 hs2 hx2;obtain⟨⟨r1,r2,r3⟩,⟨p1,p2,p3⟩,p4⟩:=Qu hJ.st;have HJ:=Zh hJ;have HD4:=Zh (fun W(e:Ext w4 W)=>HDT.out W wr.heap.size (hx4.trans e) (zk e hR4));have oS4:Old w1.heap.size w4:=⟨p4⟩;clear HDT HAP HR2 hJ hR4;obtain⟨nv,hnv⟩:=Xz (zi m y);rw[<-hnv]at HD4;have HNV:=Zh hnv;clear hnv;go_region_law (first
    |((refine zgx _ rfl (.tmp 45) (.tmp 49) 28 rfl w1.heap.size 2 (.int .i64 0) 1 8 Tryz.underlying28 qV rfl (by decide) (by decide) NA k nc _ (by simp[Act.eval]) (HJ.out.ni.ext Zi) ⟨w4.heap.size,0,none⟩ 1 1 [.int .i64 nv] (by simp[Act.eval]) ((Arr.new w4 2 #[.int .i64 nv]).ext Zi) rfl (by simp[Value.oneCell']) (by omega) (by have:=hx4.size;simp<;>omega) ?_);intro A6 d6 w6 zsJ hg6 zwi;have hb6:=hg6.heap (zk (Zi:Ext w4 ((w4.alloc (Obj.cells #[Value.int .i64 nv] 2)).drew)) HJ.out.st) (by decide);obtain⟨⟨z1,z2,z3⟩,⟨z4,z5,z6⟩,z7⟩:=Qu hb6)
    |(go_simp;go_at_call 62;refine(HD4.out _ Zi).mono ?_;rintro e w5 ⟨rfl,rfl⟩))
   all_goals
    have zsE:=HJ.out.step2 (W:=(w4.alloc (Obj.cells #[Value.int .i64 nv] 2)).drew) HY.out (by rw[<-HN.out];omega) Zi (by rw[<-HNV.out];exact zsJ) hg6 zwi;have hx6:Ext w1 (w6.setCell ⟨w1.heap.size,1,none⟩ (.slice A6 (k+1) d6)):=(hg6.ext (hx4.trans (Zi:Ext w4 ((w4.alloc (Obj.cells #[Value.int .i64 nv] 2)).drew))) Zr).setCell (p:=⟨w1.heap.size,1,none⟩) Zr _;have zrs:=Zh zsE;clear zsE zsJ hg6 zwi hb6 z1 z2 z3
    go_wp2_with fail
    exact⟨⟨k+1,A6,A3,d6,d3,_,by omega,by go_num,zrs,hx6⟩,by simp[intOf];omega⟩
  ·obtain rfl:k=q:=by omega
   clear hlt hk;obtain⟨⟨s1,s2,s3⟩,⟨t1,t2,t3⟩,s4⟩:=Qu HI.out.st;have hrb:w1.heap[w.heap.size]? =some (.cells #[.slice none 0 0,.slice none 0 0,.slice none 0 0] 70 (0,0)):=zk (Zi:Ext (w.alloc (.cells #[.slice none 0 0,.slice none 0 0,.slice none 0 0] 70)) w1) (heap_alloc_new w _);have hrr:=zk hxr hrb;obtain⟨⟨a1,a2,a3⟩,⟨b1,b2,b3⟩,a4⟩:=Qu hrr;have oS:Old w1.heap.size wr:=⟨s4⟩;have oR:Old w.heap.size wr:=⟨a4⟩
   have HRR:=Zh hrr;clear hrb hrr;go_wp2_with fail
   have hfb:(((wr.setCell ⟨w.heap.size,0,none⟩ (.slice LA k lc)).setCell ⟨w.heap.size,1,none⟩ (.slice NA k nc)).setCell ⟨w.heap.size,2,none⟩ (.slice DA k dc)).heap[w.heap.size]? =some (.cells #[.slice LA k lc,.slice NA k nc,.slice DA k dc] 70 (0,0)):=by
    rw[Zs (Zs (Zs HRR.out _) _) _];rfl
   have ho:Oth 70 wr (((wr.setCell ⟨w.heap.size,0,none⟩ (.slice LA k lc)).setCell ⟨w.heap.size,1,none⟩ (.slice NA k nc)).setCell ⟨w.heap.size,2,none⟩ (.slice DA k dc)):=
    (Oth.set2 HRR.out 0 1 _ _).trans (Oth.set (p:=⟨w.heap.size,2,none⟩) (Zs (Zs HRR.out _) _) _)
   have hxF:Ext w (((wr.setCell ⟨w.heap.size,0,none⟩ (.slice LA k lc)).setCell ⟨w.heap.size,1,none⟩ (.slice NA k nc)).setCell ⟨w.heap.size,2,none⟩ (.slice DA k dc)):=
    (((zti.trans hxr).setCell (p:=⟨w.heap.size,0,none⟩) Zr _).setCell (p:=⟨w.heap.size,1,none⟩) Zr _).setCell (p:=⟨w.heap.size,2,none⟩) Zr _
   have hLF:Mat64 (((wr.setCell ⟨w.heap.size,0,none⟩ (.slice LA k lc)).setCell ⟨w.heap.size,1,none⟩ (.slice NA k nc)).setCell ⟨w.heap.size,2,none⟩ (.slice DA k dc)) LA L:=(HL.out.ext hxr).oth ho (by decide) (by decide);generalize ((wr.setCell ⟨w.heap.size,0,none⟩ (.slice LA k lc)).setCell ⟨w.heap.size,1,none⟩ (.slice NA k nc)).setCell ⟨w.heap.size,2,none⟩ (.slice DA k dc)=wf at*
   obtain⟨⟨c1,c2,c3⟩,-,-⟩:=Qu hfb;have hI:=HI.out;rw[HQ.out]at hI;have hni:=HI.out.ni.cap;have hdi:=HI.out.di.cap;have hqq:=HQ.out;refine bodyPost_ret (v:= .tuple #[.agg #[.slice LA k lc,.slice NA k nc,.slice DA k dc],.int .i64 0]) (by simp[results,Tryz.results35,go_sem,c1,c2,c3]) rfl ⟨LA,NA,DA,lc,nc,dc,L,by rw[<-HQ.out],?_,HPL.out,by omega,hl2,by omega,by omega,by omega,by omega,hxF.toStep⟩;exact hI.sys hLF ho
structure Fm(mb:Nat)(w w':World):Prop where
 os:w'.os=w.os
 tape:w'.tape=w.tape
 output:w'.output=w.output
 size:w.heap.size<=w'.heap.size
 block:∀b,b<w.heap.size->b≠mb->w'.heap[b]? =w.heap[b]?
theorem Fm.refl(mb:Nat)(w:World):Fm mb w w:=⟨rfl,rfl,rfl,Zr,fun _ _ _=>rfl⟩
theorem Fm.trans{b c:World}(h:Fm mb a b)(h':Fm mb b c):Fm mb a c:=
 ⟨h'.os.trans h.os,h'.tape.trans h.tape,h'.output.trans h.output,Nat.le_trans h.size h'.size,fun k hk hn=>(h'.block k (Nat.lt_of_lt_of_le hk h.size) hn).trans (h.block k hk hn)⟩
theorem Fm.of_ext(h:Ext w w'):Fm mb w w':=⟨h.below.os,h.below.tape,h.below.output,h.below.size,fun b hb _=>h.below.block b hb⟩
theorem Fm.of_grown(h:w.grownBy w' (some mb)):Fm mb w w':=⟨h.os,h.tape,h.output,h.size,fun b hb hn=>h.block b hb (fun e=>hn (by injection e))⟩
theorem Fm.new(h:Fm mb w wr)(hb:Below w.heap.size wr w'):Fm mb w w':=
 ⟨hb.os.trans h.os,hb.tape.trans h.tape,hb.output.trans h.output,Nat.le_trans h.size hb.size,fun b hk hn=>(hb.block b hk).trans (h.block b hk hn)⟩
theorem Fm.ext0(hx:Ext w0 w)(hm:w0.heap.size<=mb)(h:Fm mb w w'):Ext w0 w':=
 ⟨⟨h.os.trans hx.below.os,h.tape.trans hx.below.tape,h.output.trans hx.below.output,Nat.le_trans hx.size h.size,fun b hb=>(h.block b (Nat.lt_of_lt_of_le hb hx.size) (by omega)).trans (hx.below.block b hb)⟩⟩
theorem MapC.not_cells{L:List Kc}(h:MapC w b n L) :w.heap[b]?≠some (.cells cs T fr):=by
 obtain⟨D,⟨es,c,h1,-⟩,-⟩:=h;rw[h1];intro e
 cases e
theorem Fm.cells{L:List Kc}(h:Fm mb w w')(hm:MapC w mb n L)(hb:w.heap[b]? =some (.cells cs T fr)):w'.heap[b]? =some (.cells cs T fr):=
 (h.block b (zD hb) (fun e=>hm.not_cells (by rw[<-e];exact hb))).trans hb
theorem Fm.arr{L:List Kc}(h:Fm mb w w')(hm:MapC w mb n L)(ha:Arr w A T vs):Arr w' A T vs:=
 ha.keep fun _ _ _ hb=>(h.cells hm hb).trans hb.symm
theorem Fm.own{L:List Kc}(h:Fm mb w w')(hm:MapC w mb n L)(ho:Own w zf T size A k c vs):Own w' zf T size A k c vs:=by
 refine⟨ho.1,?_⟩;rcases ho.2 with hv|⟨g,cap,cur,hv,h1,h2,h3⟩
 ·exact .inl hv
 ·exact .inr ⟨g,cap,cur,hv,h1,h.cells hm h2,h3⟩
theorem MapC.grow{L:List Kc}(h:MapC w mb n L)(hg:Grow zf T w w'):MapC w' mb n L:=by
 have hb:=hg.typed mb h.lt (fun _ _=>h.not_cells);obtain⟨D,⟨es,c,h1,h2⟩,h3⟩:=h;exact⟨D,⟨es,c,hb.trans h1,h2⟩,h3⟩
theorem MapC.at_block{L:List Kc}(h:MapC w mb n L)(hb:w'.heap[mb]? =w.heap[mb]?):MapC w' mb n L:=by
 obtain⟨D,⟨es,c,h1,h2⟩,h3⟩:=h;exact⟨D,⟨es,c,hb.trans h1,h2⟩,h3⟩
theorem RngC.iter{L ks:List Kc}(h:RngC w b r n L ks cnt) :w.heap[r]?≠some (.cells cs T fr):=by
 obtain⟨D,left,⟨es,clock,since,seen,c0,-,-,-,-,h5,-⟩,-⟩:=h;rw[h5];intro e
 cases e
theorem RngC.grow{L ks:List Kc}(h:RngC w b r n L ks cnt)(hg:Grow zf T w w'):RngC w' b r n L ks cnt:=
 h.kept (hg.typed b h.map.lt (fun _ _=>h.map.not_cells)) (hg.typed r h.lt.1 (fun _ _=>h.iter))
theorem RngC.ext{L ks:List Kc}(h:RngC w b r n L ks cnt)(hx:Ext w w'):RngC w' b r n L ks cnt:=
 h.kept (hx.below.block b h.map.lt) (hx.below.block r h.lt.1)
theorem zqp(h:w.grownBy w' (some r))(hr:∀(cs:Array Value)(T:TypeId)(fr:Nat×Nat),w.heap[r]?≠some (.cells cs T fr))(ho:Own w zf T size A k c vs):Own w' zf T size A k c vs:=by
 refine⟨ho.1,?_⟩;rcases ho.2 with hv|⟨g,cap,cur,hv,h1,h2,h3⟩
 ·exact .inl hv
 ·exact .inr ⟨g,cap,cur,hv,h1,(h.block g (zD h2) (fun e=>by injection e with e;exact hr _ _ _ (by rw[<-e];exact h2))).trans h2,h3⟩
theorem zqq:Sort.SWO (ltOf Z7) where
 irrefl x:=by
  rcases Jg x x with ⟨h1,-⟩|⟨-,h2⟩|⟨h1,-⟩
  ·exact absurd h1 (QQ.irr x)
  ·simp[ltOf,h2]
  ·exact absurd h1 (QQ.irr x)
 trans x y z h1 h2:=by
  have h1:Z7 x y<0:=of_decide_eq_true h1;have h2:Z7 y z<0:=of_decide_eq_true h2;have a1:ZK x y:=by rcases Jg x y with ⟨h,-⟩|⟨-,h⟩|⟨-,h⟩<;>first|exact h|omega
  have a2:ZK y z:=by rcases Jg y z with ⟨h,-⟩|⟨-,h⟩|⟨-,h⟩<;>first|exact h|omega
  have a3:=QQ.trans a1 a2;refine decide_eq_true (?_:Z7 x z<0);rcases Jg x z with ⟨-,h⟩|⟨h,-⟩|⟨h,-⟩
  ·omega
  ·exact absurd a3 (by rw[h];exact QQ.irr z)
  ·exact absurd h (QQ.anti a3)
 ntrans x y z h1 h2:=by
  have h1:¬Z7 x y<0:=of_decide_eq_false h1;have h2:¬Z7 y z<0:=of_decide_eq_false h2;refine decide_eq_false (fun(h3:Z7 x z<0)=>?_);have a3:ZK x z:=by rcases Jg x z with ⟨h,-⟩|⟨-,h⟩|⟨-,h⟩<;>first|exact h|omega
  have b1:y=x∨ZK y x:=by rcases Jg x y with ⟨-,h⟩|⟨h,-⟩|⟨h,-⟩<;>first|exact .inl h.symm|exact .inr h|omega
  have b2:z=y∨ZK z y:=by rcases Jg y z with ⟨-,h⟩|⟨h,-⟩|⟨h,-⟩<;>first|exact .inl h.symm|exact .inr h|omega
  rcases b1 with rfl|b1
  ·rcases b2 with rfl|b2
   ·exact QQ.irr _ a3
   ·exact QQ.anti b2 a3
  ·rcases b2 with rfl|b2
   ·exact QQ.anti b1 a3
   ·exact QQ.anti (QQ.trans b2 b1) a3
theorem zja{α:Type}[Inhabited α](enc:α->List Value)(k:Nat)(w:World)(g off m:Nat)(d:Array α)(os:Array Obj)(hb:b<w.heap.size)(hne:b≠g):(sortWorldK enc k w g off m d os).heap[b]? =w.heap[b]? :=by
 have h1:(sortWorldK enc k w g off m d os).heap[b]? =(w.heap.modify g (Sort.onCells (Sort.putCells id off (Sort.flatK enc k d))))[b]? :=by
  show ((w.heap.modify g _)++os)[b]? =_;rw[Array.getElem?_append_left (by simpa using hb)]
 rw[h1,Array.getElem?_modify,if_neg (fun h=>hne h.symm)]
theorem zqr{α:Type}[Inhabited α](enc:α->List Value)(k:Nat)(w:World)(g off m:Nat)(d:Array α)(os:Array Obj)(hg:w.heap[g]? =some (.cells cur T (0,0))):(sortWorldK enc k w g off m d os).heap[g]? =some (.cells (Sort.putCells id off (Sort.flatK enc k d) cur) T (0,0)):=by
 have h1:(sortWorldK enc k w g off m d os).heap[g]? =(w.heap.modify g (Sort.onCells (Sort.putCells id off (Sort.flatK enc k d))))[g]? :=by
  show ((w.heap.modify g _)++os)[g]? =_;rw[Array.getElem?_append_left (by simpa using zD hg)]
 rw[h1,Array.getElem?_modify,if_pos rfl,hg];rfl
theorem zqs{α:Type}[Inhabited α](enc:α->List Value)(k:Nat)(w:World)(g off m:Nat)(d:Array α)(os:Array Obj){B:Nat}(hB:B<=g)(hg:g<w.heap.size):Below B w (sortWorldK enc k w g off m d os):=
 ⟨rfl,rfl,rfl,by show w.heap.size<=((w.heap.modify g _)++os).size;simp,fun b hb=>zja enc k w g off m d os (by omega) (by omega)⟩
theorem zbE(p:List Ct)(j:Nat)(h:j<p.length*3):(zP p)[j]? =some ((jw (p.getD (j / 3) ((0,0),0))).getD (j%3) undef):=by
 obtain⟨c,hc⟩:∃c,p[j / 3]? =some c:=⟨_,Ze (by omega)⟩;obtain⟨h0,h1,h2⟩:=zeP p (j / 3) c hc;have e:p.getD (j / 3) ((0,0),0)=c:=by simp[List.getD_eq_getElem?_getD,hc]
 rw[e];rcases(by omega:j%3=0∨j%3=1∨j%3=2) with h3|h3|h3<;>rw[h3]
 ·rw[show j / 3*3=j by omega]at h0;exact h0
 ·rw[show j / 3*3+1=j by omega]at h1;exact h1
 ·rw[show j / 3*3+2=j by omega]at h2;exact h2
instance:Inhabited Ct:=⟨((0,0),0)⟩
theorem zjb(D:List Ct)(j:Nat)(h:j<D.length*3):(Sort.flatK jw 3 D.toArray)[j]! =(jw (D.getD (j / 3) ((0,0),0))).getD (j%3) undef:=by
 rw[Sort.get_flatK _ _ _ _ (by simpa using h)];have hj:j / 3<D.length:=by omega
 have e:D.toArray[j / 3]! =D.getD (j / 3) ((0,0),0):=by simp[hj]
 rw[e];rcases(by omega:j%3=0∨j%3=1∨j%3=2) with h3|h3|h3<;>rw[h3]<;>rfl
theorem zqt{off cap:Nat}{els:List Ct}(hg:w.heap[g]? =some (.cells cur 45 (0,0)))(zte:∀j u,(zP els)[j]? =some u->cur[off+j]? =some u)(hn:els.length<4611686018427387904):
  Cq 64 #[.slice (some ⟨g,off,none⟩) els.length cap,.func (.func 65) #[] #[]] w fun e w'=>e= .returned (.tuple #[])/\∃(els':List Ct) (cur':Array Value),els'.Perm els/\els'.Pairwise (fun x y=>¬Z7 y x<0)/\w'.heap[g]? =some (.cells cur' 45 (0,0))/\cur'.size=cur.size/\(∀j u,(zP els')[j]? =some u->cur'[off+j]? =some u)/\(∀j,j<off->cur'[j]? =cur[j]?)/\(∀b,b<w.heap.size->b≠g->w'.heap[b]? =w.heap[b]?)/\∀B,B<=g->Below B w w':=by
 have zsM:CmpLays Tryz.prog 65 #[] jw 3 Z7 g off els.toArray.size w:=fun m os dk _ x y=>ziY x y
 have hH:Sort.HoldsK jw 3 w g off els.toArray:=fun j hj=>by
  rw[Sort.size_flatK]at hj;have hj2:j<els.length*3:=by simpa using hj
  refine⟨?_,by simp[World.frozen?,hg]⟩;rw[id,zjb els j hj2,cell_of_row w g (off+j) _ _ _ hg];exact zte j _ (zbE els j hj2)
 have h:=AnyQ.slices_SortFunc (P:=Tryz.prog) Tryz.laysSortC 3 Tryz.isAgg45 Tryz.sizeOf45 jw (fun x=>rfl) (fun x v hv=>by
   simp only[jw,List.mem_cons,List.not_mem_nil,or_false]at hv;rcases hv with rfl|rfl|rfl<;>rfl) Z7 zqq 65 #[] g off cap els.toArray w (enters_of Tryz.func65 (by kernel_rfl) rfl) zsM hH (zD hg) (by simpa using hn)
 have e0:els.toArray.size=els.length:=by simp
 rw[e0]at h;refine h.mono ?_;rintro e w' ⟨he,d',n,os,⟨hp1,-,hp2⟩,hs,hw⟩;have hdl:d'.toList.length=els.length:=by simpa using hp1
 refine⟨he,d'.toList,_,?_,?_,by rw[hw];exact zqr jw 3 w g off n d' os hg,?_,?_,?_,?_,?_⟩
 ·have e1:d'.extract 0 els.length=d':=by apply Array.ext';simp;rw[List.take_of_length_le (by simpa using Nat.le_of_eq hdl)]
  have e2:(els.toArray).extract 0 els.length=els.toArray:=by rw[<-e0];exact Array.extract_size
  rw[e1,e2]at hp2;simpa using hp2
 ·rw[List.pairwise_iff_getElem];intro i j hi hj hij;have:=hs i j (Nat.zero_le _) hij (by simp at hj hdl;omega);have e3:d'[j]! =d'.toList[j]:=by simp at hj;simp[hj]
  have e4:d'[i]! =d'.toList[i]:=by simp at hi;simp[hi]
  rw[e3,e4]at this;exact of_decide_eq_false this
 ·unfold Sort.putCells;simp
 ·intro j u hu;have hjl:=(Zg.1 hu).1;rw[QG]at hjl;have hcs:off+j<cur.size:=by
   have:=zte j _ (zbE els j (by omega));exact(Array.getElem?_eq_some_iff.1 this).1
  have e:(zP d'.toList)[j]? =some ((Sort.flatK jw 3 d')[j]!):=by
   rw[zbE _ _ hjl,<-zjb _ _ hjl]
  rw[e]at hu;unfold Sort.putCells;rw[Array.getElem?_mapIdx,Array.getElem?_eq_getElem hcs];simp only[Option.map_some];rw[if_pos (by rw[Sort.size_flatK];simp at hjl;omega),show off+j-off=j by omega,id];exact hu
 ·intro j hj;unfold Sort.putCells;rw[Array.getElem?_mapIdx]
  cases hc:cur[j]? with
  |none=>rfl
  |some u=>simp only[Option.map_some];rw[if_neg (by omega)]
 ·rw[hw];exact fun b hb hne=>zja _ _ w g off n d' os hb hne
 ·rw[hw];exact fun B hB=>zqs _ _ w g off n d' os hB (zD hg)
theorem zjc(S:List Kc)(k:Kc):S.count k=@List.count Kc instBEqOfDecidableEq k S:=by
 unfold List.count;congr 1
 funext x
 rw[Bool.eq_iff_iff];simp
theorem zqu{S ks:List Kc}{els':List Ct}(hnd:ks.Nodup)(h1:∀k∈ks,k∈S)(h2:∀k∈S,k∈ks)(hp:els'.Perm (ks.map fun k=>(k,(S.count k:Int))))(hs:els'.Pairwise (fun x y=>¬Z7 y x<0)):els'=ZZ jX S:=by
 have hk:(els'.map Prod.fst).Nodup:=by
  have h:=hp.map Prod.fst;rw[map_map]at h;have e:(Prod.fst∘fun k:Kc=>(k,(S.count k:Int)))=id:=rfl;rw[e,List.map_id]at h;exact(h.nodup_iff).2 hnd
 refine CountOK.unique zbz ⟨?_,fun c=>?_⟩ (Jf zbz S)
 ·have hk2:els'.Pairwise (fun x y=>x.1≠y.1):=List.pairwise_map.1 hk;refine(hs.and hk2).imp ?_;rintro x y ⟨h,hne⟩;rcases Jg y x with ⟨-,h3⟩|⟨h3,-⟩|⟨h3,-⟩
  ·exact absurd (show Z7 y x<0 by omega) h
  ·exact absurd (by rw[h3]) hne
  ·unfold ZK at h3;unfold jX;rcases h3 with h3|⟨h3,h4|⟨h4,-⟩⟩
   ·exact .inl h3
   ·exact .inr ⟨h3,h4⟩
   ·exact absurd (Prod.ext h3 h4) hne
 ·rw[hp.mem_iff,List.mem_map];constructor
  ·rintro⟨k,hk,rfl⟩;have h3:=List.count_pos_iff.2 (h1 k hk);exact⟨by show (0:Int)<(S.count k:Int);omega,by show (S.count k:Int)=_;rw[zjc]⟩
  ·rintro⟨h3,h4⟩;obtain⟨k,n⟩:=c;simp only at h3 h4;rw[<-zjc]at h4;exact⟨k,h2 k (List.count_pos_iff.1 (by omega)),by rw[h4]⟩
theorem zjd{κ:Type}[DecidableEq κ]{lt:κ->κ->Prop}[DecidableRel lt]:∀(p:List (κ×Int))(k:κ),(ZG lt p k).length<=p.length+1
 |[],k=>by simp[ZG]
 |c::p,k=>by
  have ih:=zjd (lt:=lt) p k;unfold ZG;split
  ·simp;omega
  ·split<;>simp
theorem zqv{κ:Type}[DecidableEq κ]{lt:κ->κ->Prop}[DecidableRel lt](L:List κ):(ZZ lt L).length<=L.length:=by
 have key:∀(L:List κ)(p:List (κ×Int)),(L.foldl (fun p q=>ZG lt p q) p).length<=p.length+L.length:=by
  intro L;induction L with
  |nil=>intro p;simp
  |cons k L ih=>
   intro p;have h1:=ih (ZG lt p k);have h2:=zjd (lt:=lt) p k;simp only[List.foldl_cons,List.length_cons];omega
 have:=key L [];simpa[ZZ] using this
theorem zeT(m L:List (List Int))(x:List Int):(zL m L x).length<=L.length:=by
 have:=zqv (lt:=jX) (L.map (ZP m x));simpa[zL] using this
theorem zqw{p els els':List Ct}(ho:Own w zf 45 3 (some ⟨g,0,none⟩) n c (zP p++zP els))(hpe:els'.Perm els)
  {cur':Array Value} (hg:w.heap[g]? =some (.cells cur 45 (0,0))) (hg':w'.heap[g]? =some (.cells cur' 45 (0,0))) (hsz:cur'.size=cur.size) (htl:∀j u,(zP els')[j]? =some u->cur'[p.length*3+j]? =some u) (hhd:∀j,j<p.length*3->cur'[j]? =cur[j]?):
  Own w' zf 45 3 (some ⟨g,0,none⟩) n c (zP p++zP els'):=by
 have hel:els'.length=els.length:=hpe.length_eq;have zsB:=ho.1;rw[length_append,QG,QG]at zsB;rcases ho.2 with ⟨hv,-⟩|⟨g2,cap,cur2,hv,h1,h2,h3,h4,h5,h6⟩
 ·cases hv
 ·injection hv with z1 z2 z3
  injection z1 with z1
  injection z1 with z1
  subst z1 z3;rw[hg]at h2;injection h2 with h2
  injection h2 with z4
  subst z4;refine⟨by rw[length_append,QG,QG,hel];exact zsB,.inr ⟨g,c,cur',rfl,h1,hg',h3,h4,by rw[hsz];exact h5,?_⟩⟩;have hcs:n*3<=cur'.size:=by rw[hsz,h5];exact Nat.mul_le_mul_right 3 h3
  apply List.ext_getElem?;intro j;rcases Zl j (n*3) with hj|hj
  ·rw[getElem?_take,if_pos hj,Array.getElem?_toList];rcases Zl j (p.length*3) with hjp|hjp
   ·rw[List.getElem?_append_left (by rw[QG];exact hjp),hhd j hjp];have h7:(cur.toList.take (n*3))[j]? =(zP p++zP els)[j]? :=by rw[h6]
    rw[getElem?_take,if_pos hj,Array.getElem?_toList,List.getElem?_append_left (by rw[QG];exact hjp)]at h7;exact h7
   ·rw[List.getElem?_append_right (by rw[QG];exact hjp),QG];have hjl:j-p.length*3<els'.length*3:=by omega
    have h7:=htl _ _ (zbE els' _ hjl);rw[show p.length*3+(j-p.length*3)=j by omega]at h7;rw[h7,zbE els' _ hjl]
  ·rw[getElem?_take,if_neg (by omega),List.getElem?_eq_none];rw[length_append,QG,QG,hel,zsB];exact hj
theorem zqx{xs:List Value}(ho:Own w zf 45 3 A n c xs)(h0:0<n):∃(g:Nat) (cur:Array Value),A=some ⟨g,0,none⟩/\zf<=g/\w.heap[g]? =some (.cells cur 45 (0,0))/\n<=c/\∀(j:Nat)(u:Value),xs[j]? =some u->cur[j]? =some u:=by
 rcases ho.2 with ⟨-,hn⟩|⟨g,cap,cur,hv,h1,h2,h3,h4,h5,h6⟩
 ·omega
 ·injection hv with z1 _ z3
  subst z3;refine⟨g,cur,z1,h1,h2,h3,fun j u hu=>?_⟩;rw[<-h6,getElem?_take]at hu;split at hu
  ·simpa using hu
  ·cases hu
theorem zqy:(Tryz.prog.info? 45).map (fun i=>(i.zero,i.size,i.bytes))=some (some (.agg #[.int .i64 0,.int .i64 0,.int .i64 0]),3,24):=by kernel_rfl
def jY(w:World)(mb:Nat)(p:List Ct)(e:Ending)(w':World):Prop:=
 ∃A c,e= .returned (.slice A p.length c)/\Own w' w.heap.size 45 3 A p.length c (zP p)/\MapC w' mb 0 []/\Fm mb w w'
set_option maxRecDepth 20000 in
theorem zeU{XA:Option Addr}{lc xc q:Nat}(hS:SysV w0 m L LA NA DA)(hq:L.length=q)(hq8:q<=100000)(hdc:q<=dc)(zwj:dc<=9223372036854775807)(hmn:m.length=n)(hn:n<=1000)
  (zuo:(L.map (zi m)).Pairwise (·<=·)) (hX:IntsA w0 XA x) (hxn:x.length=n) (hnb:∀y∈L,0<=zi m y/\zi m y<=4611686018427387904) (hib:∀y∈L,-4611686018427387904<=zC (zV m y) x/\zC (zV m y) x<=4611686018427387904)
  (hmb:w0.heap.size<=mb) (hM:MapC w mb 0 []) [hx:Ext w0 w]:
  Cq 37 #[.agg #[.slice LA q lc,.slice NA q nc,.slice DA q dc],.slice XA n xc,.map (some mb)] w (jY w mb (zL m L x)):=by
 have HS:=Zh hS;have HQ:=Zh hq;have HX:=Zh (And.intro hX hxn);have HSR:=Zh zuo;have HNB:=Zh hnb;have HIB:=Zh hib;have HMN:=Zh hmn;have HM0:=Zh hM;have zxQ:=hM.lt;unfold jY;obtain⟨w1,hw1⟩:=Xz (w.alloc (.cells #[.slice LA q lc,.slice NA q nc,.slice DA q dc] 70));have hbx:w1.heap[w.heap.size]? =some (.cells #[.slice LA q lc,.slice NA q nc,.slice DA q dc] 70 (0,0)):=by rw[hw1];exact heap_alloc_new w _
 have hx1:Ext w w1:=by rw[hw1];infer_instance
 have HBX:=Zh hbx;have hs1:w1.heap.size=w.heap.size+1:=by rw[hw1];simp
 have HM1:Hid (MapC w1 mb 0 []):=Zh (hM.ext hx1);have ztQ:Ext w0 w1:=hx.trans hx1;clear hS hq hX hxn zuo hnb hib hmn hM hbx;go_enter Tryz.func37,Tryz.ntmps37;go_wp2_with fail
 rw[<-hw1];clear hw1;go_loopw [7,8,9,11,12,13,14,15] (fun p s _ _ _ _ _ _ wr=>∃(a pl c:Nat) (A:Option Addr),a<=q/\s= .int .i64 a/\Hid (Bdry (L.map (zi m)) a)/\p= .slice A pl c/\Hid ((zL m (L.take a) x).length=pl)/\Hid (Own wr w1.heap.size 45 3 A pl c (zP (zL m (L.take a) x)))/\Hid (MapC wr mb 0 [])/\Hid (Fm mb w1 wr)) (fun _ s _ _ _ _ _ _ _=>q-(intOf s).toNat)
 case atStart=>exact⟨0,0,0,none,by omega,rfl,Zh (Bdry.zero _),rfl,Zh rfl,Zh (Own.nil _ _ _ _),HM1,Zh (Fm.refl _ _)⟩
 case round=>
  obtain⟨a,pl,c,A,ha,rfl,HB,rfl,HPL,HO,HM,HF⟩:=hrel;obtain⟨⟨c1,c2,c3⟩,-,c4⟩:=Qu (HF.out.cells HM1.out HBX.out);have oB:Old w.heap.size wr:=⟨c4⟩;have ztf:Ext w0 wr:=Fm.ext0 ztQ hmb HF.out;by_cases hlt:a<q
  ·obtain⟨y0,hy0⟩:∃y,L[a]? =some y:=⟨_,Ze (by rw[HQ.out];exact hlt)⟩;obtain⟨na,hna⟩:∃v,zi m y0=v:=⟨_,rfl⟩;have ztw:(L.map (zi m))[a]? =some na:=by rw[getElem?_map,hy0,<-hna];rfl
   have hnl:(L.map (zi m)).length=q:=by rw[length_map];exact HQ.out
   have HSH:=Zh (fun W(e:Ext w0 W)=>zi6 (w:=W) (nc:=nc) (SL:= .slice LA q lc) (SD:= .slice DA q dc) HS.out.norms ztw hnl (by omega));obtain⟨bd,od,B0,cb0,rfl,-,-,-,-,d5⟩:=HS.out.duals.a.at_ (i:=a) (r:=ZH m y0) (by rw[getElem?_map,hy0];rfl);obtain⟨bn,on,na',rfl,zup,n5,n6⟩:=HS.out.norms.at_ (i:=a) (by omega);rw[ztw]at zup;obtain rfl:na=na':=by injection zup
   have zrI:=Zh ztw;have HNL:=Zh hnl;have HNA:=Zh (And.intro hy0 hna);have oD:Old bd w0:=⟨d5⟩;have oN:Old bn w0:=⟨n6⟩;unfold zcN at HSH;clear hy0 hna ztw hnl;go_upto_region 5 with (go_at_call 40;refine(HSH.out _ Zi).mono ?_;rintro e w2 ⟨k,rfl,hk1,hk2,hk3,hk4,hs2⟩;rw[HNL.out]at hk2;have HK3:=Zh hk3;have HK4:=Zh hk4;clear hk3 hk4)
   have ztn:Ext wr w2:=Zi;have hda:(dc==a)=false:=by simp;omega
   have hkq:k<=dc:=by omega
   go_wp2_with fail
   obtain⟨l,hl⟩:=Xz (k-a);have HL:=Zh hl;have hlq:l<=100000:=by omega
   have HF2:Hid (Fm mb w1 w2):=Zh (HF.out.trans (Fm.of_ext ztn));have HM2:Hid (MapC w2 mb 0 []):=Zh (HM.out.ext ztn);have HO2:Hid (Own w2 w1.heap.size 45 3 A pl c (zP (zL m (L.take a) x))):=Zh (HO.out.ext ztn);try rw[show ((k:Int)-(a:Int)).toNat=l by omega]
   try rw[show k-a=l by omega]
   clear HM HF HO hl;obtain⟨wo,rfl⟩:∃wo:World,wo=wr:=⟨_,rfl⟩;clear c1 c2 c3 c4;go_loopw [11,12,30] (fun _ _ i wq=>∃j:Nat,j<=l/\i= .int .i64 j/\Hid (MapC wq mb j (((L.drop a).take j).map (ZP m x)))/\Hid (Fm mb w2 wq)) (fun _ _ i _=>l-(intOf i).toNat)
   case atStart=>exact⟨0,by omega,rfl,HM2,Zh (Fm.refl _ _)⟩
   case round=>
    obtain⟨j,hj,rfl,HMj,HFj⟩:=hrel;have hFq:Fm mb w1 wr:=HF2.out.trans HFj.out;have zxR:Ext w0 wr:=Fm.ext0 ztQ hmb hFq;obtain⟨⟨c1,c2,c3⟩,-,c4⟩:=Qu (hFq.cells HM1.out HBX.out);have oBq:Old w.heap.size wr:=⟨c4⟩;by_cases hjl:j<l
    ·obtain⟨y,hy⟩:∃y,L[a+j]? =some y:=⟨_,Ze (by rw[HQ.out];have:=HL.out;omega)⟩;obtain⟨bd',od',B,cb,hA,e0,hB,e2,e3,-⟩:=HS.out.duals.a.at_ (i:=a+j) (r:=ZH m y) (by rw[getElem?_map,hy];rfl);injection hA with hA
     injection hA with z1 z2
     subst z1 z2;have hlA:(ZH m y).length=n:=by simp[ZH];exact HMN.out
     rw[hlA]at e0 e2;have e1:wr.cell? ⟨bd,od+a+j,none⟩=some (.slice B n cb):=by rw[Nat.add_assoc];exact(zh w0).trans e0
     obtain⟨v,hv⟩:=Yz (zC (zV m y) x);have hvb:=HIB.out y (Zm hy);rw[hv]at hvb;have hdw:qf (ZH m y) x=v:=by rw[zi8];unfold qf;rw[hv];exact Iw
     have HD:=Zh (fun W(e:Ext w0 W)=>zeR (w:=W) (c:=cb) (d:=xc) hB HX.out.1 hlA HX.out.2 Zr (by omega));rw[hdw]at HD;have hnv:zi m y=na:=HK3.out (a+j) _ (by omega) (by have:=HL.out;omega) (by rw[getElem?_map,hy];rfl);have zwk:=HNB.out y (Zm hy);rw[hnv]at zwk;obtain⟨av,hav⟩:∃av,((v.natAbs:Nat):Int)=av:=⟨_,rfl⟩;have zs8:ZP m x y=(na,av):=by unfold ZP;rw[hnv,hv,hav]
     have hkw:jb (na,av):=by
      have e1:IntKind.i64.min=-9223372036854775808:=rfl;have e2:IntKind.i64.max=9223372036854775807:=rfl;refine⟨?_,?_⟩<;>simp[Lit.wf]<;>omega
     have hMj:=HMj.out;have hKS:((L.drop a).take (j+1)).map (ZP m x)=((L.drop a).take j).map (ZP m x)++[(na,av)]:=by
      rw[List.take_add_one,List.getElem?_drop,hy,map_append];simp[zs8]
     have hSl:(((L.drop a).take j).map (ZP m x)).length<=j:=by simp;omega
     have HKS:=Zh hKS;clear hKS;generalize ((L.drop a).take j).map (ZP m x)=S at*
     have ztm:(S.count (na,av):Int)<=100000:=by have:=List.count_le_length (a:=(na,av)) (l:=S);omega
     have zwl:(Instr.lookup 75 (.map (some mb)) (.agg #[.int .i64 na,.int .i64 av,.int .i64 0]) false).run Tryz.prog wr.drew= .ok (.int .i64 (S.count (na,av))) wr.drew:=MapC.look (w:=wr.drew) hMj hkw;obtain⟨v0',st,wE,hE',hMid,hgE⟩:=MapC.entry (w:=wr.drew) hMj (by simp[maxLen];omega) (by omega) hkw;have hE:(Instr.mapEntry 75 (.map (some mb)) (.agg #[.int .i64 na,.int .i64 av,.int .i64 0])).run Tryz.prog wr.drew= .ok (.tuple #[v0',goInt st]) wE:=hE'
     have zwm:(Instr.lookup 75 (.map (some mb)) (.agg #[.int .i64 na,.int .i64 av,.int .i64 0]) false).run Tryz.prog wE= .ok (.int .i64 (S.count (na,av))) wE:=hMid.look;obtain⟨es1,cl1,hb1,hst⟩:=hMid.store;obtain⟨w3,hS3',hM3,hg3⟩:=hst wE hb1;have hS3:(Instr.entryStore 75 (.map (some mb)) (.int .i64 st) (.int .i64 ((S.count (na,av):Int)+1))).run Tryz.prog wE= .ok () w3:=hS3';clear hS3';have hF3:Fm mb wr w3:=(Fm.of_ext (Zi:Ext wr wr.drew)).trans ((Fm.of_grown hgE).trans (Fm.of_grown hg3))
     have hbn:bn≠mb:=by omega
     have hbw:w.heap.size≠mb:=by omega
     have n5q:wr.cell? ⟨bn,on+a,none⟩=some (.int .i64 na):=(zh w0).trans n5;have n5E:wE.cell? ⟨bn,on+a,none⟩=some (.int .i64 na):=(World.cell?_of_block (hgE.block bn (Nat.lt_of_lt_of_le n6 zxR.size) (fun h=>hbn (by injection h)))).trans n5q;have c2E:wE.cell? ⟨w.heap.size,1,none⟩=some (.slice (some ⟨bn,on,none⟩) q nc):=(World.cell?_of_block (hgE.block w.heap.size c4 (fun h=>hbw (by injection h)))).trans c2
     have hcw:IntKind.i64.wrap ((S.count (na,av):Int)+1)=(S.count (na,av):Int)+1:=Iw;have HM3:=Zh hM3;have HF3:=Zh hF3;generalize S.count (na,av)=cnt at*
     clear hst hb1 hMid hE' hgE hg3 hM3 hF3 hMj zs8;have HAV:=Zh hav;clear hav hv hdw hkw zwk ztm hy hB e0 hlA hSl;by_cases zsF:v<0
     ·have hwn:IntKind.i64.wrap (-v)=av:=by
       have h1:=HAV.out;rw[Iw];omega
      go_upto_region 11 with (go_at_call 62;refine(HD.out _ Zi).mono ?_;rintro e w5 ⟨rfl,rfl⟩)
      go_region
      all_goals
       clear hE zwl zwm hS3 n5q n5E c2E;go_wp2_with fail
       exact⟨⟨j+1,by omega,by go_num,Zh (by rw[HKS.out];exact HM3.out),Zh (HFj.out.trans HF3.out)⟩,by simp[intOf];omega⟩
     ·have hvn:v=av:=by have h1:=HAV.out;omega
      subst hvn;go_upto_region 11 with (go_at_call 62;refine(HD.out _ Zi).mono ?_;rintro e w5 ⟨rfl,rfl⟩)
      go_region
      all_goals
       clear hE zwl zwm hS3 n5q n5E c2E;go_wp2_with fail
       exact⟨⟨j+1,by omega,by go_num,Zh (by rw[HKS.out];exact HM3.out),Zh (HFj.out.trans HF3.out)⟩,by simp[intOf];omega⟩
    ·obtain rfl:j=l:=by omega
     clear hjl hj;obtain⟨S,hS⟩:=Xz (((L.drop a).take j).map (ZP m x));have HSE:=Zh hS;have hMS:=HMj.out;rw[<-hS]at hMS;clear hS HMj;obtain⟨wR,cnt0,hR,hRng,hgR,hsR⟩:=hMS.range;have HRng:=Zh hRng;have hc0:cnt0<=j:=hRng.cnt_le;have hxR:Ext wr wR:=⟨⟨hgR.os,hgR.tape,hgR.output,hgR.size,fun b hb=>hgR.block b hb (by simp)⟩⟩;have hOq:Own wr w1.heap.size 45 3 A pl c (zP (zL m (L.take a) x)):=HFj.out.own HM2.out HO2.out
     have hOR:=hOq.ext hxR;have HOR:=Zh hOR;have HFR:Hid (Fm mb w1 wR):=Zh (hFq.trans (Fm.of_ext hxR));obtain⟨wq,hwq⟩:∃wq:World,wq=wr:=⟨_,rfl⟩;have hrg:w1.heap.size<=wr.heap.size:=hFq.size;obtain⟨it,hit⟩:=Xz wr.heap.size;rw[<-hit]at hR HRng hrg;have HIT:=Zh hit;clear hOq hOR hRng hgR hMS hwq hit;obtain⟨P,hP⟩:=Xz (zL m (L.take a) x);have HP:=Zh hP;rw[<-hP]at HOR HPL;clear hP HO2
     have zyY:pl<=100000:=by
      have h1:=zeT m (L.take a) x;rw[<-HP.out,HPL.out,List.length_take]at h1;omega
     go_upto_region 15 with fail
     go_loopw [7,14,15] (fun p _ _ wz=>∃(ks:List Kc) (A':Option Addr) (c' cnt:Nat),p= .slice A' (pl+ks.length) c'/\ks.length+cnt<=cnt0/\Hid (Own wz w1.heap.size 45 3 A' (pl+ks.length) c' (zP P++zP (ks.map fun k=>(k,(S.count k:Int)))))/\Hid (RngC wz mb it j S ks cnt)/\Hid (Fm mb w1 wz)) (fun _ _ _ wz=>wz.rangeLeft mb it)
     case atStart=>exact⟨[],A,c,cnt0,rfl,by simp,Zh (by have h:=HOR.out;simpa[zP] using h),HRng,HFR⟩
     case round=>
      obtain⟨ks,A',c',cnt,rfl,hkc,HOz,HRz,HFz⟩:=hrel;have zxS:Ext w0 wr:=Fm.ext0 ztQ hmb HFz.out;rcases HRz.out.next 0 with ⟨zsD,zsT⟩|⟨k1,w5,cnt1,hkS,zsT,hR1,zwn,hg1,zuy,hen⟩
      ·have hSl:S.length=j:=by
        have h1:=HL.out;have h2:=HQ.out;rw[HSE.out,length_map,List.length_take,List.length_drop];omega
       have hkl:0<ks.length:=by
        obtain⟨k0,hk0⟩:∃k0,k0∈S:=⟨S[0]'(by have:=HL.out;omega),List.getElem_mem _⟩;exact List.length_pos_of_mem (zsD k0 hk0)
       obtain⟨g,cur,rfl,hbg,hgc,hnc,zvp⟩:=zqx HOz.out (by omega);obtain⟨els,ztW⟩:∃els:List Ct,els=ks.map fun k=>(k,(S.count k:Int)):=⟨_,rfl⟩
       have hel:els.length=ks.length:=by rw[ztW];simp
       rw[<-ztW]at zvp;have zsK:=HOz.out.cap;have HSO:Hid (Cq 64 #[.slice (some ⟨g,pl*3,none⟩) ks.length (c'-pl),.func (.func 65) #[] #[]] wr fun e w'=>e= .returned (.tuple #[])/\∃(els':List Ct) (cur':Array Value),els'.Perm els/\els'.Pairwise (fun x y=>¬Z7 y x<0)/\w'.heap[g]? =some (.cells cur' 45 (0,0))/\cur'.size=cur.size/\(∀j u,(zP els')[j]? =some u->cur'[pl*3+j]? =some u)/\(∀j,j<pl*3->cur'[j]? =cur[j]?)/\(∀b,b<wr.heap.size->b≠g->w'.heap[b]? =wr.heap[b]?)/\∀B,B<=g->Below B wr w'):=Zh (by
        rw[<-hel];refine zqt hgc (fun j' u hu=>zvp _ u ?_) (by omega);rw[List.getElem?_append_right (by rw[QG,HPL.out];omega),QG,HPL.out,show pl*3+j'-pl*3=j' by omega];exact hu)
       have hcp:(c'==pl)=false:=by simp;omega
       have hgm:mb≠g:=fun e=>HRz.out.map.not_cells (by rw[e];exact hgc)
       have HEL:=Zh ztW;have zsq:=Zh zsD;have HGC:=Zh hgc;have zwo:mb<wr.heap.size:=HRz.out.map.lt;have zuE:pl+ks.length-pl=ks.length:=by omega
       clear zvp ztW hel zsD hgc;go_upto_region 20 with (go_at_call 64;refine HSO.out.mono ?_;rintro e w6 ⟨rfl,els',cur',p1,p2,p3,p4,p5,p6,p7,p8⟩;obtain⟨wC,hC,hMC,hgC⟩:=(HRz.out.map.at_block (p7 mb zwo hgm)).clear)
       have hM6:=HRz.out.map.at_block (p7 mb zwo hgm);have HM6:=Zh hM6;have HMC:=Zh hMC;have zsr:=Zh hgC;have HP7:=Zh p8;have HP5:=Zh (And.intro p5 p6);have HP2:=Zh (And.intro p1 p2);have HP3:=Zh (And.intro p3 p4);clear hM6 hMC hgC p8 p5 p6 p7 p1 p2 p3 p4 HSO;go_wp2_with fail
       have zsJ:Own w6 w1.heap.size 45 3 (some ⟨g,0,none⟩) (pl+ks.length) c' (zP P++zP els'):=zqw (p:=P) (els:=els) (by rw[HEL.out];exact HOz.out) HP2.out.1 HGC.out HP3.out.1 HP3.out.2 (by rw[HPL.out];exact HP5.out.1) (by rw[HPL.out];exact HP5.out.2);have hfC:Fm mb w6 wC:=Fm.of_grown zsr.out;have hownC:=hfC.own HM6.out zsJ;have hbd:Bdry (L.map (zi m)) k:=Bdry.end_ HSR.out hk1 zrI.out (fun i y h1 h2 h3=>HK3.out i y h1 h2 h3) HK4.out
       have hks:=HRz.out.keys;have hdt:(L.take k).drop a=(L.drop a).take j:=by
        rw[List.drop_take,HL.out]
       have hpr:els'=zL m ((L.take k).drop a) x:=by
        rw[hdt];unfold zL;rw[<-HSE.out];exact zqu hks.1 hks.2 zsq.out (by rw[<-HEL.out];exact HP2.out.1) (HP2.out.2.imp fun h=>by omega)
       have hsh:=zp9 (x:=x) (show a<=k by omega) HB.out;rw[<-hpr,<-HP.out]at hsh;have hle:(zL m (L.take k) x).length=pl+ks.length:=by
        rw[hsh,length_append,HPL.out,HP2.out.1.length_eq,HEL.out,length_map]
       refine⟨⟨k,pl+ks.length,c',some ⟨g,0,none⟩,hk2,rfl,Zh hbd,rfl,Zh hle,Zh ?_,HMC,Zh ((HFz.out.new (HP7.out _ hbg)).trans hfC)⟩,by simp[intOf];omega⟩;rw[hsh,ziU];exact hownC
      ·unfold qm at zsT hen;have HO5:Hid (Own w5 w1.heap.size 45 3 A' (pl+ks.length) c' (zP P++zP (ks.map fun k=>(k,(S.count k:Int))))):=Zh (zqp hg1 (fun cs T fr=>HRz.out.iter) HOz.out);have HF5:Hid (Fm mb w1 w5):=Zh (HFz.out.new ⟨hg1.os,hg1.tape,hg1.output,hg1.size,fun b hb=>hg1.block b (Nat.lt_of_lt_of_le hb HFz.out.size) (fun e=>by injection e with e;omega)⟩);have HR5:=Zh hR1;have HLQ:Hid (w5.rangeLeft mb it<wr.rangeLeft mb it):=Zh (by rw[hR1.left_eq,HRz.out.left_eq];exact zwn)
       have HRS:=Zh (show zP P++zP (ks.map fun k=>(k,(S.count k:Int)))++[.int .i64 k1.1,.int .i64 k1.2,.int .i64 (S.count k1)]=zP P++zP ((ks++[k1]).map fun k=>(k,(S.count k:Int))) by
        rw[map_append,ziU,List.append_assoc];rfl)
       generalize hcn:(S.count k1:Int)=cn at*
       have hs5:=HF5.out.size;clear hR1 hg1 hkS zxS zuy;go_upto_region 18 with fail
       go_wp2_with (at_builtin;go_loud (refine zM _ rfl _ _ 30 rfl w1.heap.size 45 (.agg #[.int .i64 0,.int .i64 0,.int .i64 0]) 3 24 Tryz.underlying30 zqy rfl (by omega) (by omega) A' (pl+ks.length) c' _ rfl (HO5.out.ext Zi) (some ⟨w5.heap.size+1,0,none⟩) 1 1 [.int .i64 k1.1,.int .i64 k1.2,.int .i64 cn] rfl (by have h:=Arr.new (w5.alloc (.cells #[.int .i64 k1.1,.int .i64 k1.2,.int .i64 cn] 45)) 45 #[.int .i64 k1.1,.int .i64 k1.2,.int .i64 cn];rw[World.size_alloc]at h;exact h) (by simp) (by simp[Value.oneCell']) (by omega) (by simp;omega) ?_);intro A6 c6 w6 zsA hg6)
       have hxb:Ext w5 ((w5.alloc (.cells #[.int .i64 k1.1,.int .i64 k1.2,.int .i64 cn] 45)).alloc (.cells #[.int .i64 k1.1,.int .i64 k1.2,.int .i64 cn] 45)):=Zi;have hR6:=(HR5.out.ext hxb).grow hg6;rw[HRS.out]at zsA;refine⟨⟨ks++[k1],A6,c6,cnt1,by simp[Nat.add_assoc],by simp;omega,Zh (by rw[length_append,<-Nat.add_assoc];exact zsA),Zh hR6,Zh ((HF5.out.trans (Fm.of_ext hxb)).new (hg6.below.mono Zr))⟩,?_⟩
       rw[hR6.left_eq,HRz.out.left_eq];exact zwn
  ·obtain rfl:a=q:=by omega
   clear hlt;have zsE:L.take a=L:=List.take_of_length_le (by rw[HQ.out];exact Zr);have zr2:=HPL.out;have HO2:=HO.out;rw[zsE]at zr2 HO2;go_wp2_with fail
   go_ret;rw[zr2];exact⟨A,c,rfl,HO2.lower (by omega),HM.out,(Fm.of_ext hx1).trans HF.out⟩
theorem zqz(hM:MatA w0 A m)(zsB:m.length<=1099511627776)(hc:m.length<=c)(hc2:c<=9223372036854775807)(hr:ZI m=true)(hX:Ints w0 X 2 .i64 x)(hl:x.length<=1099511627776)[hx:Ext w0 w]:
  Cq 105 #[.slice A m.length c,.slice X x.length d] w (zF w (.bool (jj m.length x))):=by
 have zs2:=fun W(e:Ext w0 W)=>zbT (w:=W) hM zsB hc hc2
 rw[hr]at zs2;have HR:=Zh zs2;have HF:=Zh (fun W(e:Ext w0 W)=>zdc (w:=W) (c:=d) (n:=m.length) hX hl);clear zs2 hM hX hr;generalize jj m.length x=r at*
 generalize x.length=xl at*
 go_enter Tryz.func105,Tryz.ntmps105;go_wp2_with (first
  |(go_at_call 147;refine(HR.out _ Zi).mono ?_;rintro e w1 ⟨rfl,hs1⟩)
  |(go_at_call 106;refine(HF.out _ Zi).mono ?_;rintro e w2 ⟨rfl,rfl⟩))
 go_ret;exact⟨rfl,Step.of _ _⟩
theorem zqA(hM:MatA w0 A m)(hc:m.length<=c)(hc2:c<=9223372036854775807)(hR:RedM m)(hX:Ints w0 X 2 .i64 x)(hxl:x.length=m.length)(hb:∀y∈x,-1099511627776<=y/\y<=1099511627776)[hx:Ext w0 w]:
  Cq 36 #[.slice A m.length c,.slice X x.length d] w (zF w (.tuple #[.int .i64 (if QY (zi m x) then zi m x else 0),.bool (QY (zi m x))])):=by
 obtain⟨u,hu⟩:∃u,u=(if QY (zi m x)=true then zi m x else 0):=⟨_,rfl⟩;obtain⟨r,hr'⟩:∃r,r=QY (zi m x):=⟨_,rfl⟩;rw[<-hu,<-hr'];have h8:=hR.n8;have zsI:jj m.length x=true:=by
  rw[zfX hxl];exact za5.2 hb
 have hv:=fun W(e:Ext w0 W)=>zqz (w:=W) (c:=c) (d:=d) hM (by omega) hc hc2 hR.red hX (by omega)
 have hf:=fun W(e:Ext w0 W)=>zdc (w:=W) (c:=d) (n:=m.length) hX (by omega)
 rw[zsI]at hv hf;have HV:=Zh hv;have HF:=Zh hf;have HA:=Zh (fun W(e:Ext w0 W)=>zfY (w:=W) (c:=c) (d:=d) hM hX hR.all hxl h8 hR.ent hb);have HD:Hid (∀W Y dy,Ext w0 W->Ints W Y 2 .i64 (zV m x)->Cq 107 #[.slice X x.length d,.slice Y (zV m x).length dy] W (zF W (.tuple #[.int .i64 u,.bool r]))):=Zh (fun W Y dy e hY=>by
  have h:=zgn (w0:=W) (w:=W) (c:=d) (d:=dy) (hX.ext e) hY (by rw[zar,hxl]) (by omega) hb (fun z hz=>by
   obtain⟨r,hr,rfl⟩:=List.mem_map.1 hz;have hb:=zaq (A:=262144) (B:=1099511627776) (by omega) (by omega) r x (hR.ent r hr) hb;have hrl:=hR.all r hr;omega)
  rw[zar,<-hxl];exact h.mono fun e w'⟨he,hs⟩=>⟨by rw[he,hu,hr'];rfl,hs⟩)
 unfold zc7 at HA;clear hu hr';obtain⟨al,hal⟩:=Yz ((zV m x).length);rw[hal]at HA HD;generalize zV m x=Y at*
 clear hv hf zsI hM hX hR hb hal;rw[hxl] at*
 generalize m.length=n at*
 have HI:Hid (∀W,Ext w0 W->Cq 63 #[.slice A n c,.slice X n d,.slice X n d] W (zF W (.tuple #[.int .i64 u,.bool r]))):=Zh (fun W e=>by
  go_enter Tryz.func63,Tryz.ntmps63;go_wp2_with (first
   |(go_at_call 105;refine(HV.out _ Zi).mono ?_;rintro e w1 ⟨rfl,hs1⟩)
   |(go_at_call 106;refine(HF.out _ Zi).mono ?_;rintro e w2 ⟨rfl,rfl⟩)
   |(go_at_call 108;refine(HA.out _ Zi).mono ?_;rintro e w3 ⟨B3,d3,rfl,hI3,-,-,hs3⟩)
   |(go_at_call 107;refine(HD.out _ _ _ Zi hI3).mono ?_;rintro e w4 ⟨rfl,hs4⟩))
  go_ret2
  exact⟨rfl,Step.of _ _⟩)
 clear HV HF HA HD;go_enter Tryz.func36,Tryz.ntmps36;go_wp2_with (go_at_call 63;refine(HI.out _ Zi).mono ?_;rintro e w1 ⟨rfl,hs1⟩)
 go_ret2
 exact⟨rfl,Step.of _ _⟩
structure PrfL(m L:List (List Int)):Prop where
 len:L.length<=100000
 zd:∀y∈L,y.length=m.length
 srt:(L.map (zi m)).Pairwise (·<=·)
 nb:∀y∈L,0<=zi m y/\zi m y<=4611686018427387904
def zaR(m L:List (List Int))(x:List Int):Prop:=∀y∈L,-4611686018427387904<=zC (zV m y) x/\zC (zV m y) x<=4611686018427387904
def zje(w:World)(m:List (List Int))(P:List (List Int)->Prop)(x:List Int)(e:Ending)(w':World):Prop:=
 ∃A c L,e= .returned (.tuple #[.slice A (zL m L x).length c,.int .i64 0])/\P L/\Own w' w.heap.size 45 3 A (zL m L x).length c (zP (zL m L x))/\Step w w'
set_option maxRecDepth 20000 in
theorem zqB{b:Int}{P:List (List Int)->Prop}(hM:MatA w0 A m)(hc:m.length<=c)(hc2:c<=9223372036854775807)(hR:RedM m)(hX:Ints w0 X 2 .i64 x)(hxl:x.length=m.length)(hb:∀y∈x,-1099511627776<=y/\y<=1099511627776)(hnb:QY (zi m x)=true)
  (ztG:∀W,Ext w0 W->Cq 60 #[.slice A m.length c,.int .i64 b,.int .i64 u] W (zbD W P)) (hP:∀L,P L->PrfL m L/\zaR m L x) [hx:Ext w0 w]:
  Cq 15 #[.slice A m.length c,.int .i64 b,.int .i64 u,.slice X x.length d] w (zje w m P x):=by
 have h8:=hR.n8;have zsD:∀r∈m,r.length<=m.length:=fun r hr=>Nat.le_of_eq (hR.all r hr)
 have hPN:∀L,P L->L.length<=100000/\(∀y∈L,y.length=m.length)/\∀y∈L,-9223372036854775808<=zi m y/\zi m y<=9223372036854775807:=fun L hL=>by
  obtain⟨⟨h1,h2,-,h4⟩,-⟩:=hP L hL;exact⟨h1,h2,fun y hy=>by have:=h4 y hy;omega⟩
 have HNS:Hid (∀W,Ext w0 W->Cq 35 #[.slice A m.length c,.int .i64 b,.int .i64 u] W (zaQ W m P)):=Zh (fun W e=>zi9 (w:=W) hM (by omega) zsD ztG hPN);clear zsD hPN;have hn:=fun W(e:Ext w0 W)=>zqA (w:=W) (c:=c) (d:=d) hM hc hc2 hR hX hxl hb
 rw[hnb,if_pos rfl,hxl]at hn;rw[hxl];have HN:=Zh hn;have HPR:Hid (∀(W0 W:World)(LA NA DA:Option Addr)(lc nc dc mb:Nat)(L:List (List Int)),P L->SysV W0 m L LA NA DA->L.length<=dc->dc<=9223372036854775807->Ext w0 W0->Ext W0 W->W0.heap.size<=mb->MapC W mb 0 []->Cq 37 #[.agg #[.slice LA L.length lc,.slice NA L.length nc,.slice DA L.length dc],.slice X m.length d,.map (some mb)] W (jY W mb (zL m L x))):=Zh (fun W0 W LA NA DA lc nc dc mb L hL hS h1 h2 e0 e1 hmb hMC=>by
  obtain⟨hp,hi⟩:=hP L hL;have h:=zeU (w0:=W0) (w:=W) (lc:=lc) (nc:=nc) (dc:=dc) (xc:=d) (n:=m.length) hS rfl hp.len h1 h2 rfl (by omega) hp.srt ⟨_,hX.ext e0⟩ hxl hp.nb hi hmb hMC;exact h)
 clear hn hP ztG hM hX hb hnb hR hxl;unfold zaQ at HNS;unfold jY at HPR;unfold zje;generalize m.length=n at*
 have hmk:=@run_makeMap Tryz.prog;go_enter Tryz.func15,Tryz.ntmps15;go_upto_region 7 with (first
  |(go_at_call 35;refine(HNS.out _ Zi).mono ?_;rintro e w1 ⟨LA,NA,DA,lc,nc,dc,L,rfl,hS,hPL,-,-,-,-,hd1,hd2,hs1⟩;have HSY:=Zh hS;have HPL:=Zh hPL;clear hS hPL)
  |(go_at_call 36;refine(HN.out _ Zi).mono ?_;rintro e w2 ⟨rfl,hs2⟩))
 have hx2:Ext w w2:=(Zi:Ext w (w1.alloc (.cells #[.slice LA L.length lc,.slice NA L.length nc,.slice DA L.length dc] 70))).trans Zi;have ztD:Ext w1 w2:=Zi;have HPC:=Zh (HPR.out w2 (w2.alloc (.map #[] 0)) LA NA DA lc nc dc w2.heap.size L HPL.out (HSY.out.ext ztD) hd1 hd2 (hx.trans hx2) Zi Zr (MapC.made w2));clear HPR HN HNS;go_wp2_with (go_at_call 37;refine HPC.out.mono ?_;rintro e w3 ⟨A3,c3,rfl,hO3,hM3,hF3⟩)
 go_ret2
 have hx3:Ext w w3:=Fm.ext0 (hx2.trans Zi) hx2.size hF3;have hsz:=hx2.size;exact⟨A3,c3,L,rfl,HPL.out,hO3.lower (by simp;omega),hx3.toStep⟩
end Go.Proofs.YtcmkopogafchiaaGreat

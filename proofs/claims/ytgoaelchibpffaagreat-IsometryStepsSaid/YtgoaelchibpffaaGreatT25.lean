import Derived.Test.YtgoaelchibpffaaGreatT24
set_option maxHeartbeats 8000000
set_option linter.unusedVariables false
set_option linter.unusedSimpArgs false
namespace Go.Proofs.YtgoaelchibpffaaGreat
open List (mem_cons length_map length_take map_append getElem?_map nodup_cons getElem?_set range_succ getElem?_range)
variable {cd:Bool} {c:Int} {L P m:List (List Int)} {r x y:List Int} {vs:List Value} {b0 d6 dc g i j k n nc q sb:Nat} {f f':Nat->Int} {A A6 DA NA:Option Addr} {LV:Value} {W w w' w3 w6 wr:World}
section
open Go.RowKit La
def ZS(L:List (List Int)):List (List Int):=L.flatMap fun x=>[x,x.map fun c=>-c]
theorem zp8(L:List (List Int))(x:List Int):ZS (L++[x])=ZS L++[x,x.map fun c=>-c]:=by simp[ZS]
theorem zcQ:∀L:List (List Int),(ZS L).length=2*L.length
 |[]=>rfl
 |x::L=>by have:=zcQ L;simp only[ZS,List.flatMap_cons,List.length_append,List.length_cons,List.length_nil]at this|-;omega
theorem zcR :x∈ZS L↔x∈L∨(x.map fun c=>-c)∈L:=by
 unfold ZS;rw[List.mem_flatMap];constructor
 ·rintro⟨y,hy,hx⟩;simp only[mem_cons,List.not_mem_nil,or_false]at hx;rcases hx with rfl|rfl
  ·exact .inl hy
  ·exact .inr (by rw[zcH];exact hy)
 ·rintro(h|h)
  ·exact⟨x,h,af⟩
  ·exact⟨_,h,by rw[zcH];simp⟩
structure PtI(n:Nat)(wr:World)(sb:Nat)(pre:List (List Int))(els:List VE)(PA:Option Addr)(k pc:Nat):Prop where
 st:wr.heap[sb]? =some (.cells #[.slice PA k pc,.slice none 0 0,.slice none 0 0,.slice none 0 0] 77 (0,0))
 own:Own wr sb 34 1 PA k pc (els.map VE.enc)
 ok:∀x∈els,x.ok wr
 ls:els.map VE.l=pre
theorem VE.ok.ext{x:VE}(h:x.ok w)(hx:Ext w w'):x.ok w':=⟨h.1.ext hx,h.2⟩
theorem zp9(hc:x[q]? =some c):((x.take q).map (fun c=>-c)++List.replicate (x.length-q) 0).set q (-c)=(x.take (q+1)).map (fun c=>-c)++List.replicate (x.length-(q+1)) 0:=by
 have hq:=(Zg.1 hc).1;obtain⟨r,hr⟩:∃r,x.length-q=r+1:=⟨x.length-q-1,aa⟩;rw[List.set_append_right _ _ (by simp;omega),length_map,length_take,Nat.min_eq_left aa,Nat.sub_self,hr,(aa:x.length-(q+1)=r),List.replicate_succ,List.set_cons_zero,List.take_add_one,hc,map_append];simp
theorem PtI.push{pc c1:Nat}{pre:List (List Int)}{els:List VE}{PA B:Option Addr}(h:PtI n wr sb pre els PA k pc)(hx:Ext wr W)(hB:Ints W B 2 .i64 x)(hV:Row W g 2 .i64 (x.map fun c=>-c))(hxl:x.length<=1000)(hc1:x.length<=c1)(hc2:c1<=9223372036854775807)
  (zsq:Own w6 sb 34 1 A6 (k+2) d6 (els.map VE.enc++[.slice B x.length c1,.slice (some ⟨g,0,none⟩) x.length x.length])) (hg:Grow sb 34 W w6):
  PtI n (w6.setCell ⟨sb,0,none⟩ (.slice A6 (k+2) d6)) sb (pre++[x,x.map fun c=>-c]) (els++[⟨B,c1,x⟩,⟨some ⟨g,0,none⟩,x.length,x.map fun c=>-c⟩]) A6 (k+2) d6:=by
 have hb6:=hg.heap (zg hx h.st) ac;have hoS:=Oth.set (p:=⟨sb,0,none⟩) hb6 (.slice A6 (k+2) d6);refine⟨by rw[zX hb6];rfl,?_,fun y hy=>?_,by rw[map_append,h.ls];rfl⟩
 ·rw[map_append];have e:[(⟨B,c1,x⟩:VE),⟨some ⟨g,0,none⟩,x.length,x.map fun c=>-c⟩].map VE.enc=[.slice B x.length c1,.slice (some ⟨g,0,none⟩) x.length x.length]:=by simp[VE.enc]
  rw[e];exact zsq.oth hoS ac
 ·have key:∀z:VE,z.ok W->z.ok (w6.setCell ⟨sb,0,none⟩ (.slice A6 (k+2) d6)):=fun z hz=>⟨(hz.1.grow hg ac).oth hoS ac,hz.2⟩
  rcases List.mem_append.1 hy with hy|hy
  ·exact key y ((h.ok y hy).ext hx)
  ·simp only[mem_cons,List.not_mem_nil,or_false]at hy;rcases hy with rfl|rfl
   ·exact key _ ⟨hB,by simp only;omega,hc1,hc2⟩
   ·exact key _ ⟨hV.ints,by simp only[length_map];omega,af,by simp only;omega⟩
theorem VRowV.of_own{ze c:Nat}{els:List VE}(h:Own w ze 34 1 A n c (els.map VE.enc))(hn:0<n):∃g,A=some ⟨g,0,none⟩/\ze<=g/\VRowV w g els:=by
 obtain⟨hl,h2⟩:=h;rcases h2 with ⟨_,h0⟩|⟨g,cap,cur,hv,hb,hh,h3,h4,h5,h6⟩
 ·omega
 ·injection hv with hA
  refine⟨g,hA,hb,cur,hh,fun i x hx=>?_⟩;have a:(els.map VE.enc)[i]? =some x.enc:=by rw[getElem?_map,hx];rfl
  rw[<-h6,List.getElem?_take]at a;split at a
  ·simpa using a
  ·cases a
theorem zqa(h:P.Pairwise fun x y=>¬zn y x<0)(hn:P.Nodup):P.Pairwise fun x y=>zn x y<0:=
 (List.Pairwise.and h hn).imp fun{x y}hxy=>by
  have h1:=Qc x y;rcases zau x y with e|e|e
  ·omega
  ·exact absurd (jH _ _ e) hxy.2
  ·exact absurd ((aa:zn y x<0)) hxy.1
structure QtI(m L:List (List Int))(wr:World)(sb b0:Nat)(LV:Value)(NA DA:Option Addr)(k nc dc:Nat)(vs:List Value):Prop where
 st:wr.heap[sb]? =some (.cells #[LV,.slice DA k dc,.slice NA k nc,.slice none 0 0] 77 (0,0))
 ni:Own wr b0 2 1 NA k nc ((L.take k).map fun y=> .int .i64 (zh m y))
 di:Own wr b0 34 1 DA k dc vs
 row:∀i y,i<k->L[i]? =some y->∃B c,vs[i]? =some (.slice B m.length c)/\ArrN NA wr B 2 ((zC m y).map (Value.int .i64))/\m.length<=c/\c<=9223372036854775807
structure QtJ(m L:List (List Int))(wr:World)(sb b0:Nat)(LV:Value)(NA DA:Option Addr)(k nc dc:Nat)(vs:List Value)(g:Nat)(y:List Int):Prop where
 st:wr.heap[sb]? =some (.cells #[LV,.slice DA (k+1) dc,.slice NA k nc,.slice none 0 0] 77 (0,0))
 ni:Own wr b0 2 1 NA k nc ((L.take k).map fun y=> .int .i64 (zh m y))
 di:Own wr b0 34 1 DA (k+1) dc (vs++[.slice (some ⟨g,0,none⟩) m.length m.length])
 row:∀i y,i<k->L[i]? =some y->∃B c,vs[i]? =some (.slice B m.length c)/\ArrN NA wr B 2 ((zC m y).map (Value.int .i64))/\m.length<=c/\c<=9223372036854775807
 new:ArrN NA wr (some ⟨g,0,none⟩) 2 ((zC m y).map (Value.int .i64))
theorem QtI.step1{d3:Nat}{A3:Option Addr}(hI:QtI m L wr sb b0 LV NA DA k nc dc vs)(hx:Ext wr W)(zsr:Row W g 2 .i64 (zC m y))(hg:wr.heap.size<=g)
  (zsq:Own w3 b0 34 1 A3 (k+1) d3 (vs++[.slice (some ⟨g,0,none⟩) m.length m.length])) (hgr:Grow b0 34 W w3):QtJ m L (w3.setCell ⟨sb,1,none⟩ (.slice A3 (k+1) d3)) sb b0 LV NA A3 k nc d3 vs g y:=by
 have hB3:=hgr.heap (zg hx hI.st) ac;have hoS:=Oth.set (p:=⟨sb,1,none⟩) hB3 (.slice A3 (k+1) d3);refine⟨by rw[zX hB3];rfl,((hI.ni.ext hx).grow hgr ac).oth hoS ac,zsq.oth hoS ac,fun i y hi hy=>?_,?_⟩
 ·obtain⟨B,c,a,b,e⟩:=hI.row i y hi hy;exact⟨B,c,a,((b.ext hx).oth (Oth.of_grow hgr) ac).oth hoS ac,e⟩
 ·have hlt:=hI.ni.blockLt;have zur:ArrN NA W (some ⟨g,0,none⟩) 2 ((zC m y).map (Value.int .i64)):=fun _=>⟨g,0,_,_,rfl,fun a ha=>by have:=hlt a ha;omega,zsr,fun j u hu=>by simpa using hu⟩
  exact(zur.oth (Oth.of_grow hgr) ac).oth hoS ac
theorem QtJ.step2{w4:World}(hJ:QtJ m L w4 sb b0 LV NA DA k nc dc vs g y)(hy:L[k]? =some y)(hml:m.length<=1000)(hx:Ext w4 W)
  (zsq:Own w6 b0 2 1 A6 (k+1) d6 (((L.take k).map fun y=> .int .i64 (zh m y))++[.int .i64 (zh m y)])) (hg:Grow b0 2 W w6) (hgr:Grew NA A6 W w6):QtI m L (w6.setCell ⟨sb,2,none⟩ (.slice A6 (k+1) d6)) sb b0 LV A6 DA (k+1) d6 dc (vs++[.slice (some ⟨g,0,none⟩) m.length m.length]):=by
 have hB6:=hg.heap (zg hx hJ.st) ac;have hoS:=Oth.set (p:=⟨sb,2,none⟩) hB6 (.slice A6 (k+1) d6);have hvl:vs.length=k:=by have:=hJ.di.len;simp at this;omega
 refine⟨by rw[zX hB6];rfl,?_,((hJ.di.ext hx).grow hg ac).oth hoS ac,fun i y' hi hy'=>?_⟩
 ·have e:L.take (k+1)=L.take k++[y]:=by rw[List.take_add_one,hy];rfl
  rw[e,map_append];exact zsq.oth hoS ac
 ·rcases Zl i k with h|h
  ·obtain⟨B,c,a,b,e⟩:=hJ.row i y' h hy';exact⟨B,c,by rw[List.getElem?_append_left aa];exact a,((b.ext hx).grew hgr).oth hoS ac,e⟩
  ·obtain rfl:i=k:=aa
   obtain rfl:y=y':=by rw[hy]at hy';injection hy'
   exact⟨_,m.length,by rw[List.getElem?_append_right aa,hvl];simp,((hJ.new.ext hx).grew hgr).oth hoS ac,Zr,aa⟩
theorem QtI.norms(hI:QtI m L wr sb b0 LV NA DA L.length nc dc vs):Ints wr NA 2 .i64 (L.map (zh m)):=by
 have h:=hI.ni.arr;rw[List.take_length]at h;show Arr _ _ _ _;rw[List.map_map];exact h
theorem QtI.duals(hI:QtI m L wr sb b0 LV NA DA L.length nc dc vs):Mat64 wr DA (L.map (zC m)):=by
 refine⟨vs,by have:=hI.di.len;simp;omega,hI.di.arr,fun i r hr=>?_⟩;rw[getElem?_map]at hr;obtain⟨y,hy,rfl⟩:∃y,L[i]? =some y/\zC m y=r:=by
  cases hh:L[i]? with
  |none=>rw[hh]at hr;cases hr
  |some y=>rw[hh]at hr;exact⟨y,rfl,by simpa using hr⟩
 obtain⟨B,c,a,b,e⟩:=hI.row i y (Zg.1 hy).1 hy;have hl:(zC m y).length=m.length:=by simp[zC]
 exact⟨B,c,by rw[hl];exact a,b.arr,by rw[hl];exact e.1,e.2⟩
theorem VRowV.oth{T:TypeId}{els:List VE}(h:VRowV w g els)(ho:Oth T w w')(hT:34≠T):VRowV w' g els:=by
 obtain⟨cur,hg,hc⟩:=h;exact⟨cur,ho _ _ _ _ hT hg,hc⟩
def Jd(w:World)(m L:List (List Int))(e:Ending)(w':World):Prop:=
 ∃(g pc dc nc:Nat) (DA NA:Option Addr) (els:List VE),e= .returned (.agg #[.slice (some ⟨g,0,none⟩) els.length pc,.slice DA els.length dc,.slice NA els.length nc,.slice none 0 0])/\(els.map VE.l).Perm (ZS L)/\(els.map VE.l).Pairwise (fun x y=>zn x y<0)/\VRowV w' g els/\(∀x∈els,x.ok w')/\Mat64 w' DA ((els.map VE.l).map (zC m))/\Ints w' NA 2 .i64 ((els.map VE.l).map (zh m))/\Step w w'
theorem Only.grow{T:Nat}{e:TypeId}(h:Only T w W)(hg:Grow w.heap.size e W w3)(hT:T<w.heap.size):Only T w w3:=
 ⟨h.below.trans (hg.below.mono (Nat.le_of_lt hT)),fun b h1 h2=>(hg.below.block b h2).trans (h.rest b h1 h2)⟩
set_option maxRecDepth 20000 in
theorem zeG{w0:World}{LA:Option Addr}{c lc:Nat}(hM:MatA w0 A m)(hmn:m.length=n)(hn:n<=1000)(zsy:AllLen m n)(hL:Mat64 w0 LA L)(hq:L.length=q)(hq8:q<=8000)(hq1:1<=q)(hnd:(ZS L).Nodup)(hnb:∀y∈ZS L,-9223372036854775808<=zh m y/\zh m y<=9223372036854775807)(hLr:∀x∈L,x.length=n/\∀a∈x,-4611686018427387904<=a/\a<=4611686018427387904)[hx:Ext w0 w]:
  Cq 41 #[.slice A n c,.slice LA q lc] w (Jd w m L):=by
 unfold Jd;have HM:=Zh (And.intro hM (And.intro hmn zsy));have HL:=Zh hL;have HQ:=Zh hq;have HLR:=Zh hLr;have HND:=Zh hnd;have HNB:=Zh hnb;clear hM hmn zsy hL hq hLr hnd hnb;go_enter Tryz.func41,Tryz.ntmps41;go_wp2_with fail
 obtain⟨w1,hw1⟩:=Xz (w.alloc (.cells #[.slice none 0 0,.slice none 0 0,.slice none 0 0,.slice none 0 0] 77));rw[<-hw1];have hz1:w1.heap.size=w.heap.size+1:=by rw[hw1];simp
 have hr1:w1.heap[w.heap.size]? =some (.cells #[.slice none 0 0,.slice none 0 0,.slice none 0 0,.slice none 0 0] 77 (0,0)):=by rw[hw1];exact heap_alloc_new w _
 have hx1:Ext w w1:=by rw[hw1];infer_instance
 rw[<-hz1];clear hw1;have hst:=heap_alloc_new w1 (.cells #[.slice none 0 0,.slice none 0 0,.slice none 0 0,.slice none 0 0] 77);have hx2:Ext w1 (w1.alloc (.cells #[.slice none 0 0,.slice none 0 0,.slice none 0 0,.slice none 0 0] 77)):=Zi;have hr2:=zg hx2 hr1;generalize w1.alloc (.cells #[.slice none 0 0,.slice none 0 0,.slice none 0 0,.slice none 0 0] 77)=w2 at*
 have HR2:=Zh hr2;have HR1:=Zh hr1;have HST:Hid (PtI n w2 w1.heap.size (ZS (L.take 0)) [] none (2*0) 0):=Zh ⟨hst,Own.nil w2 w1.heap.size 34 1,fun x hx=>absurd hx af,rfl⟩;have zyE:Ext w0 w2:=hx.trans (hx1.trans hx2);have HX2:=Zh (And.intro hx1 hx2);clear hr1 hr2 hst hx1 hx2 hz1;go_loopw [7,8,9,10,18,27] (fun _ _ _ _ i _ wr=>∃(k pc:Nat) (PA:Option Addr) (els:List VE),k<=q/\i= .int .i64 k/\Hid (PtI n wr w1.heap.size (ZS (L.take k)) els PA (2*k) pc)/\Ext w1 wr) (fun _ _ _ _ i _ _=>q-(intOf i).toNat)
 case atStart=>exact⟨0,0,none,[],aa,rfl,HST,HX2.out.2⟩
 case round=>
  obtain⟨k,pc,PA,els,hk,rfl,HI,hxr⟩:=hrel;have zu2:=hxr;obtain⟨wo,rfl⟩:∃wo:World,wo=wr:=⟨_,rfl⟩;have ztc:Ext w0 wo:=hx.trans (HX2.out.1.trans hxr);by_cases hlt:k<q
  ·obtain⟨x,hxk⟩:∃x,L[k]? =some x:=⟨_,Ze (by rw[HQ.out];exact hlt)⟩;have hxm:=Zm hxk;obtain⟨hxl,hxb⟩:=HLR.out x hxm;obtain⟨lb,lo,B,c1,rfl,e1,hB,e3,e4,e5⟩:=(HL.out.ext ztc).at_ hxk;rw[hxl]at e1 e3;have hmk:=qz (P:=Tryz.prog) (k:= .i64) Tryz.underlying34 qb aa (n:Int) aa aa;have oL:Old lb wo:=⟨e5⟩;have HXL:=Zh (And.intro hxk hxl);have HXB:=Zh hxb;have HB:=Zh hB;have HV0:Hid (Row (wo.alloc (.cells (zO n .i64) 2)) wo.heap.size 2 .i64 ((x.take 0).map (fun c=>-c)++List.replicate (x.length-0) 0)):=Zh (by rw[hxl];simpa using Row.made wo n .i64 2)
   have hxv:Ext wo (wo.alloc (.cells (zO n .i64) 2)):=Zi;clear hxk hxm hxl hxb hB;go_wp2_with fail
   clear hmk e1;go_loopw [9,10,27] (fun _ _ j wr=>∃r:Nat,r<=n/\j= .int .i64 r/\Hid (Row wr wo.heap.size 2 .i64 ((x.take r).map (fun c=>-c)++List.replicate (x.length-r) 0))/\Ext wo wr) (fun _ _ j _=>n-(intOf j).toNat)
   case atStart=>exact⟨0,aa,rfl,HV0,hxv⟩
   case round=>
    obtain⟨r,hr,rfl,HV,hxw⟩:=hrel;by_cases hrn:r<n
    ·obtain⟨bb,bo,a,rfl,ha,f1,f2⟩:=(HB.out.ext hxw).at_ (i:=r) (by rw[HXL.out.2];exact hrn);have hab:=HXB.out a (Zm ha);have hng:IntKind.i64.wrap (-a)=-a:=Iw;have HS:=Zh (zp9 ha);obtain⟨y0,-,m1⟩:=HV.out.cell (i:=r) (by simp;have:=HXL.out.2;omega);have m2:=HV.out.frozen r;have hvl:=HV.out.lt;have oB:Old bb wr:=⟨f2⟩;clear ha;go_wp2_with fail
     refine⟨⟨r+1,aa,by go_num,Zh ?_,?_⟩,by simp[intOf];omega⟩
     ·have h2:=HV.out.set r (-a);rw[HS.out]at h2;exact h2
     ·exact hxw.setCell (p:=⟨wo.heap.size,r,none⟩) Zr _
    ·obtain rfl:r=n:=aa
     have hrw:(x.take r).map (fun c=>-c)++List.replicate (x.length-r) 0=x.map fun c=>-c:=by
      rw[HXL.out.2,Nat.sub_self,List.take_of_length_le (by rw[HXL.out.2];exact Zr)];simp
     rw[hrw]at HV;obtain⟨wv,rfl⟩:∃wv:World,wv=wr:=⟨_,rfl⟩;have zty:Ext wo wv:=hxw;have hb:=zg zty HI.out.st;have s1:wv.cell? ⟨w1.heap.size,0,none⟩=some (.slice PA (2*k) pc):=by simp[World.cell?,hb]
     have s2:wv.frozen? ⟨w1.heap.size,0,none⟩=false:=by simp[World.frozen?,hb]
     have oS:Old w1.heap.size wv:=⟨zi hb⟩;have HOW:=Zh (fun(W:World)(e:Ext wv W)=>HI.out.own.ext (zty.trans e));have hl0:w1.heap.size<=wv.heap.size:=(hxr.trans zty).size;clear hb;go_upto_region 12 with (at_builtin;go_loud (refine Zp _ rfl _ _ 25 rfl w1.heap.size 34 (.slice none 0 0) 1 24 Tryz.underlying25 qe rfl aa aa PA (2*k) pc _ rfl (HOW.out _ Zi) (some ⟨wv.heap.size,0,none⟩) 2 2 [.slice B r c1,.slice (some ⟨wo.heap.size,0,none⟩) r r] rfl (Arr.new wv 34 #[.slice B r c1,.slice (some ⟨wo.heap.size,0,none⟩) r r]) af (by simp[Value.oneCell']) aa (by simp;omega) ?_);intro A6 d6 w6 zsq hg;have hb6:=hg.heap (zg (zty.trans Zi) HI.out.st) ac;have z1:w6.frozen? ⟨w1.heap.size,0,none⟩=false:=(by simp[World.frozen?,hb6]);have z2:w6.cell? ⟨w1.heap.size,0,none⟩=some (.slice PA (2*k) pc):=(by simp[World.cell?,hb6]);have z3:=zi hb6)
     have hpx:ZS (L.take (k+1))=ZS (L.take k)++[x,x.map fun c=>-c]:=by rw[List.take_add_one,HXL.out.1];exact zp8 _ _
     have hxl:=HXL.out.2;have hWv:Ext wv (wv.alloc (.cells #[.slice B r c1,.slice (some ⟨wo.heap.size,0,none⟩) r r] 34)):=Zi;have zu3:=HI.out.push (c1:=c1) (g:=wo.heap.size) (B:=B) (x:=x) (zty.trans hWv) ((HB.out.ext zty).ext hWv) (by rw[hrw] at*;exact zg hWv HV.out) aa (by rw[hxl];exact e3) e4 (by rw[hxl];exact zsq) hg;have hx6:Ext w1 (w6.setCell ⟨w1.heap.size,0,none⟩ (.slice A6 (2*k+2) d6)):=(hg.ext (zu2.trans (zty.trans hWv)) Zr).setCell (p:=⟨w1.heap.size,0,none⟩) Zr _
     rw[<-hpx]at zu3;have HP:=Zh zu3;clear zu3 zsq hg hb6 z1 z2 hpx;go_wp2_with fail
     exact⟨⟨k+1,d6,A6,_,aa,by go_num,HP,hx6⟩,by simp[intOf];omega⟩
  ·obtain rfl:k=q:=aa
   have hst:=HI.out.st;have s1:wo.cell? ⟨w1.heap.size,0,none⟩=some (.slice PA (2*k) pc):=by simp[World.cell?,hst]
   have oS:Old w1.heap.size wo:=⟨zi hst⟩;have hel:els.length=2*k:=by have:=congrArg List.length HI.out.ls;rw[length_map,zcQ,length_take,HQ.out]at this;omega
   obtain⟨g,rfl,hgb,zsr⟩:=VRowV.of_own HI.out.own aa;have hsc:=zp1 (cap:=pc) zsr HI.out.ok aa;rw[hel]at hsc;have HSC:=Zh hsc;have zrr:=Zh hst;have zup:g≠w1.heap.size:=fun e=>by
    obtain⟨cur,hgc,-⟩:=zsr;rw[e,hst]at hgc;injection hgc with hgc
    injection hgc with _ he
    exact absurd he ac
   clear hst hsc zsr;go_upto_region 14 with (go_at_call 92;refine HSC.out.mono ?_;rintro e w7 ⟨rfl,els',hp,hso,zus,zt5,zs1⟩)
   have hPl:(els'.map VE.l).Perm (ZS L):=by
    have h1:=hp.map VE.l;rw[HI.out.ls,List.take_of_length_le (by rw[HQ.out];exact Zr)]at h1;exact h1
   have hPs:(els'.map VE.l).Pairwise fun x y=>zn x y<0:=zqa (List.pairwise_map.2 (hso.imp fun h=>aa)) (hPl.nodup_iff.2 HND.out)
   have zvY:w7.heap[w1.heap.size]? =some (.cells #[.slice (some ⟨g,0,none⟩) (2*k) pc,.slice none 0 0,.slice none 0 0,.slice none 0 0] 77 (0,0)):=(zs1.1 _ (zi zrr.out) (fun e=>zup e.symm)).trans zrr.out;have hx7:Ext w1 w7:=⟨zu2.below.trans (zs1.2 _ hgb)⟩;have zu4:els'.length=2*k:=by rw[hp.length_eq];exact hel
   have HP7:=Zh (And.intro hPl (And.intro hPs (And.intro zus (And.intro zt5 zu4))));have zru:=Zh zvY;clear hPl hPs zus zt5 zu4 hp hso zs1 HSC zrr s1 oS zvY hel;obtain⟨P,hP⟩:=Xz (els'.map VE.l);obtain⟨N,hN⟩:=Xz (2*k);have hPN:P.length=N:=by rw[hP,length_map,HP7.out.2.2.2.2,hN]
   have HPN:=Zh hPN;have HPE:=Zh hP;have HPB:Hid (∀y∈P,-9223372036854775808<=zh m y/\zh m y<=9223372036854775807):=Zh (fun y hy=>HNB.out y (by rw[hP,HP7.out.1.mem_iff]at hy;exact hy));have HPY:Hid (∀y∈P,y.length=n):=Zh (fun y hy=>by
    rw[hP,HP7.out.1.mem_iff,zcR]at hy;rcases hy with hy|hy
    ·exact(HLR.out y hy).1
    ·have:=(HLR.out _ hy).1;simpa using this)
   have hs7:w7.cell? ⟨w1.heap.size,0,none⟩=some (.slice (some ⟨g,0,none⟩) N pc):=by rw[hN];simp[World.cell?,zru.out]
   have oS7:Old w1.heap.size w7:=⟨zi zru.out⟩;have HN8:N<=16000:=aa
   have HQ0:Hid (QtI m P w7 w1.heap.size w7.heap.size (.slice (some ⟨g,0,none⟩) N pc) none none 0 0 0 []):=Zh ⟨by rw[hN];exact zru.out,Own.nil _ _ _ _,Own.nil _ _ _ _,fun i y hi=>absurd hi aa⟩;have zxA:Ext w0 w7:=hx.trans (HX2.out.1.trans hx7);have HSB:Hid (w1.heap.size<w7.heap.size):=Zh (zi zru.out);rw[<-hN];clear hN hP hPN HI HL HND HST;go_wp2_with fail
   go_loopw [12,13,14,15,52,61] (fun _ _ _ _ i _ wr=>∃(k2:Nat) (NA DA:Option Addr) (nc dc:Nat) (vs:List Value),k2<=N/\i= .int .i64 k2/\Hid (QtI m P wr w1.heap.size w7.heap.size (.slice (some ⟨g,0,none⟩) N pc) NA DA k2 nc dc vs)/\Hid (Only w1.heap.size w7 wr)) (fun _ _ _ _ i _ _=>N-(intOf i).toNat)
   case atStart=>exact⟨0,none,none,0,0,[],aa,rfl,HQ0,Zh (Only.refl _ _)⟩
   case round=>
    obtain⟨k2,NA,DA,nc,dc,vs,hk2,rfl,HI,HO⟩:=hrel;obtain⟨wa,rfl⟩:∃wa:World,wa=wr:=⟨_,rfl⟩;have zt6:Ext w1 wa:=HO.out.ext hx7 Zr;have zvZ:Ext w0 wa:=hx.trans (HX2.out.1.trans zt6);by_cases ztb:k2<N
    ·obtain⟨z,hz⟩:∃z,els'[k2]? =some z:=⟨_,Ze (by have:=HPN.out;rw[HPE.out,length_map]at this;omega)⟩;have hzy:P[k2]? =some z.l:=by rw[HPE.out,getElem?_map,hz];rfl
     have hzm:=Zm hz;have hzl:z.l.length=n:=HPY.out _ (Zm hzy);obtain⟨p1,-,p3⟩:=HP7.out.2.2.1.cell hz;have p1a:wa.cell? ⟨g,k2,none⟩=some (.slice z.A n z.c):=by
      rw[HO.out.cell (p:=⟨g,k2,none⟩) p3 zup,p1,<-hzl];rfl
     have hB:Ints wa z.A 2 .i64 z.l:=(HP7.out.2.2.2.1 z hzm).1.keep fun b cs fr hb=>HO.out.at_ (zi hb) (fun e=>by
      rw[e,zru.out]at hb;injection hb with hb
      injection hb with _ he
      exact absurd he ac)
     have oG:Old g wa:=⟨Nat.lt_of_lt_of_le p3 HO.out.size⟩;have hmk:=qz (P:=Tryz.prog) (k:= .i64) Tryz.underlying34 qb aa (n:Int) aa aa;have hV0:Row (wa.alloc (.cells (zO n .i64) 2)) wa.heap.size 2 .i64 ((zC m z.l).take 0++List.replicate (n-0) 0):=by simpa using Row.made wa n .i64 2
     have zv0:Ext wa (wa.alloc (.cells (zO n .i64) 2)):=Zi;have HZ:=Zh (And.intro hzy (And.intro hzl hB));have HV0:=Zh hV0;have HYl:Hid ((zC m z.l).length=n):=Zh (by simp[zC,HM.out.2.1]);clear hz hzy hzm hzl p1 p3 hB hV0;generalize z.l=y at*
     generalize z.A=B at*
     generalize z.c=c1 at*
     go_wp2_with fail
     clear hmk p1a;go_loopw [14,15,61] (fun _ _ j wr=>∃r:Nat,r<=n/\j= .int .i64 r/\Hid (Row wr wa.heap.size 2 .i64 ((zC m y).take r++List.replicate (n-r) 0))/\Ext wa wr) (fun _ _ j _=>n-(intOf j).toNat)
     case atStart=>exact⟨0,aa,rfl,HV0,zv0⟩
     case round=>
      obtain⟨r,hr,rfl,HV,hxw⟩:=hrel;obtain⟨wd,rfl⟩:∃wd:World,wd=wr:=⟨_,rfl⟩;by_cases hrn:r<n
      ·have hrm:r<m.length:=by rw[HM.out.2.1];exact hrn
       obtain⟨mb,mo,R,c2,rfl,f1,f2,f3,f4,f5⟩:=(HM.out.1.ext (zvZ.trans hxw)).at_ (i:=r) (r:=m[r]) (by simp[hrm]);have hRl:m[r].length=n:=HM.out.2.2 _ (List.getElem_mem _);rw[hRl]at f1 f3;have hYr:(zC m y)[r]? =some (z6 m[r] y):=by simp[zC,hrm]
       have HD:=Zh (fun W(e:Ext wd W)=>J4 (w0:=wd) (w:=W) (c:=c2) (d:=c1) f2 ⟨_,HZ.out.2.2.ext hxw⟩ hRl HZ.out.2.1 Zr aa);have zrI:=Zh (zpz (zC m y) r n _ hYr hrn);obtain⟨y0,-,m1⟩:=HV.out.cell (i:=r) (by simp;have:=HYl.out;omega);have m2:=HV.out.frozen r;have hvl:=HV.out.lt;have oM:Old mb wd:=⟨f5⟩;generalize z6 m[r] y=dv at*
       clear f2 hYr hRl;go_wp2_with (go_at_call 91;refine(HD.out _ Zi).mono ?_;rintro e w5 ⟨rfl,rfl⟩)
       refine⟨⟨r+1,aa,by go_num,Zh ?_,?_⟩,by simp[intOf];omega⟩
       ·have h2:=HV.out.set r dv;rw[zrI.out]at h2;exact h2
       ·exact hxw.setCell (p:=⟨wa.heap.size,r,none⟩) Zr _
      ·obtain rfl:r=n:=aa
       have zun:(zC m y).take r++List.replicate (r-r) 0=zC m y:=by
        rw[Nat.sub_self,List.take_of_length_le (by rw[HYl.out];exact Zr)];simp
       rw[zun]at HV;have hst:=zg hxw HI.out.st;have s1:wd.cell? ⟨w1.heap.size,1,none⟩=some (.slice DA k2 dc):=by simp[World.cell?,hst]
       have s2:wd.frozen? ⟨w1.heap.size,1,none⟩=false:=by simp[World.frozen?,hst]
       have oS:Old w1.heap.size wd:=⟨zi hst⟩;have hb0:w7.heap.size<=wd.heap.size:=by have:=HO.out.size;have:=hxw.size;omega
       have HDI:=Zh (fun(W:World)(e:Ext wd W)=>HI.out.di.ext (hxw.trans e));clear hst;go_upto_region 24 with (at_builtin;go_loud (refine Zp _ rfl _ _ 25 rfl w7.heap.size 34 (.slice none 0 0) 1 24 Tryz.underlying25 qe rfl aa aa DA k2 dc vs rfl (HDI.out _ Zi) (some ⟨wd.heap.size,0,none⟩) 1 1 [.slice (some ⟨wa.heap.size,0,none⟩) r r] rfl (Arr.new wd 34 #[.slice (some ⟨wa.heap.size,0,none⟩) r r]) af (by simp[Value.oneCell']) aa (by simp;omega) ?_);intro A3 d3 w3 zsq hg;have hb3:=hg.heap (zg (hxw.trans Zi) HI.out.st) ac;have q1:w3.frozen? ⟨w1.heap.size,1,none⟩=false:=(by simp[World.frozen?,hb3]);have q2:w3.cell? ⟨w1.heap.size,1,none⟩=some (.slice DA k2 dc):=(by simp[World.cell?,hb3]);have q3:=zi hb3)
       have hWd:Ext wd (wd.alloc (.cells #[.slice (some ⟨wa.heap.size,0,none⟩) r r] 34)):=Zi;have hxa:Ext wa (wd.alloc (.cells #[.slice (some ⟨wa.heap.size,0,none⟩) r r] 34)):=hxw.trans hWd;have hJ:=HI.out.step1 (y:=y) (g:=wa.heap.size) hxa (zg hWd HV.out) Zr (by rw[HM.out.2.1];exact zsq) hg;have hO4:Only w1.heap.size w7 (w3.setCell ⟨w1.heap.size,1,none⟩ (.slice A3 (k2+1) d3)):=(((HO.out.trans (Only.of_ext hxa (Nat.le_of_lt (zi HI.out.st)))).grow hg HSB.out).trans (Only.set q3 1 _))
       have hR4:Row (w3.setCell ⟨w1.heap.size,1,none⟩ (.slice A3 (k2+1) d3)) wa.heap.size 2 .i64 (zC m y):=(Oth.set (p:=⟨w1.heap.size,1,none⟩) hb3 (.slice A3 (k2+1) d3)) _ _ _ _ ac (hg.heap (zg hWd HV.out) ac);have zv1:Ext w1 (w3.setCell ⟨w1.heap.size,1,none⟩ (.slice A3 (k2+1) d3)):=hO4.ext hx7 Zr;have hB4:Ints (w3.setCell ⟨w1.heap.size,1,none⟩ (.slice A3 (k2+1) d3)) B 2 .i64 y:=((HZ.out.2.2.ext hxa).grow hg ac).oth (Oth.set (p:=⟨w1.heap.size,1,none⟩) hb3 (.slice A3 (k2+1) d3)) ac
       have hs4:w7.heap.size<=(w3.setCell ⟨w1.heap.size,1,none⟩ (.slice A3 (k2+1) d3)).heap.size:=hO4.size;generalize w3.setCell ⟨w1.heap.size,1,none⟩ (.slice A3 (k2+1) d3)=w4 at*
       have hnv:z6 (zC m y) y=zh m y:=zpD (HPB.out y (Zm HZ.out.1));have HD4:=Zh (fun W(e:Ext w4 W)=>J4 (w0:=w4) (w:=W) (c:=r) (d:=c1) ⟨_,hR4.ints⟩ ⟨_,hB4⟩ HYl.out HZ.out.2.1 Zr aa);rw[hnv]at HD4;obtain⟨nv,zu5⟩:=Xz (zh m y);rw[<-zu5]at HD4;have HNV:=Zh zu5;have hstJ:=hJ.st;have r1:w4.cell? ⟨w1.heap.size,2,none⟩=some (.slice NA k2 nc):=by simp[World.cell?,hstJ]
       have r2:w4.frozen? ⟨w1.heap.size,2,none⟩=false:=by simp[World.frozen?,hstJ]
       have oS4:Old w1.heap.size w4:=⟨zi hstJ⟩;have HJ:=Zh hJ;have HO4:=Zh hO4;have HXA:=Zh (And.intro zv1 zt6);clear hJ hO4 hR4 hB4 hnv zu5 hstJ zsq hg hb3 q1 q2 q3 s1 s2 oS hWd hxa hxw zv1 zt6 zvZ HDI HV0 zv0 oG zxA hx7 hxr zu2 ztc;go_region_law (first
        |((refine zgr _ rfl (.tmp 80) (.tmp 84) 34 rfl w7.heap.size 2 (.int .i64 0) 1 8 Tryz.underlying34 qb rfl ac ac NA k2 nc _ (by simp[Act.eval]) (HJ.out.ni.ext Zi) ⟨w4.heap.size,0,none⟩ 1 1 [.int .i64 nv] (by simp[Act.eval]) ((Arr.new w4 2 #[.int .i64 nv]).ext Zi) rfl (by simp[Value.oneCell']) aa (by simp<;>omega) ?_);intro A6 d6 w6 zsx hg6 ztJ;have hb6:=hg6.heap (zg (Zi:Ext w4 ((w4.alloc (Obj.cells #[Value.int .i64 nv] 2)).drew)) HJ.out.st) ac;have z1:w6.frozen? ⟨w1.heap.size,2,none⟩=false:=(by simp[World.frozen?,hb6]);have z2:w6.cell? ⟨w1.heap.size,2,none⟩=some (.slice NA k2 nc):=(by simp[World.cell?,hb6]);have z3:=zi hb6)
        |(go_simp;go_at_call 91;refine(HD4.out _ Zi).mono ?_;rintro e w5 ⟨rfl,rfl⟩))
       all_goals
        have hW4:Ext w4 ((w4.alloc (Obj.cells #[Value.int .i64 nv] 2)).drew):=Zi;have zst:=HJ.out.step2 (W:=(w4.alloc (Obj.cells #[Value.int .i64 nv] 2)).drew) HZ.out.1 (by rw[HM.out.2.1];omega) hW4 (by rw[<-HNV.out];exact zsx) hg6 ztJ;have hO6:Only w1.heap.size w7 (w6.setCell ⟨w1.heap.size,2,none⟩ (.slice A6 (k2+1) d6)):=(((HO4.out.trans (Only.of_ext hW4 (Nat.le_of_lt oS4.lt))).grow hg6 HSB.out).trans (Only.set z3 2 _))
        have zrm:=Zh zst;have HO6:=Zh hO6;clear zst hO6 zsx hg6 ztJ hb6 z1 z2;go_wp2_with fail
        exact⟨⟨k2+1,A6,A3,d6,d3,_,aa,by go_num,zrm,HO6⟩,by simp[intOf];omega⟩
    ·obtain rfl:k2=N:=aa
     have hst:=HI.out.st;have hrr:=zg zt6 HR1.out;have c0:wa.cell? ⟨w1.heap.size,0,none⟩=some (.slice (some ⟨g,0,none⟩) k2 pc):=by simp[World.cell?,hst]
     have c1:wa.cell? ⟨w1.heap.size,1,none⟩=some (.slice DA k2 dc):=by simp[World.cell?,hst]
     have c2:wa.cell? ⟨w1.heap.size,2,none⟩=some (.slice NA k2 nc):=by simp[World.cell?,hst]
     have c3:wa.cell? ⟨w1.heap.size,3,none⟩=some (.slice none 0 0):=by simp[World.cell?,hst]
     have d0:wa.cell? ⟨w.heap.size,0,none⟩=some (.slice none 0 0):=by simp[World.cell?,hrr]
     have d1:wa.cell? ⟨w.heap.size,1,none⟩=some (.slice none 0 0):=by simp[World.cell?,hrr]
     have d2:wa.cell? ⟨w.heap.size,2,none⟩=some (.slice none 0 0):=by simp[World.cell?,hrr]
     have d3:wa.cell? ⟨w.heap.size,3,none⟩=some (.slice none 0 0):=by simp[World.cell?,hrr]
     have f0:wa.frozen? ⟨w.heap.size,0,none⟩=false:=by simp[World.frozen?,hrr]
     have f1:wa.frozen? ⟨w.heap.size,1,none⟩=false:=by simp[World.frozen?,hrr]
     have f2:wa.frozen? ⟨w.heap.size,2,none⟩=false:=by simp[World.frozen?,hrr]
     have f3:wa.frozen? ⟨w.heap.size,3,none⟩=false:=by simp[World.frozen?,hrr]
     have oS:Old w1.heap.size wa:=⟨zi hst⟩;have oR:Old w.heap.size wa:=⟨zi hrr⟩;have HRR:=Zh hrr;clear hst hrr;go_wp2_with fail
     have hg1:=zX (i:=0) HRR.out (.slice (some ⟨g,0,none⟩) k2 pc);have hg2:=zX (i:=1) hg1 (.slice DA k2 dc);have hg3:=zX (i:=2) hg2 (.slice NA k2 nc);have hfb:((((wa.setCell ⟨w.heap.size,0,none⟩ (.slice (some ⟨g,0,none⟩) k2 pc)).setCell ⟨w.heap.size,1,none⟩ (.slice DA k2 dc)).setCell ⟨w.heap.size,2,none⟩ (.slice NA k2 nc)).setCell ⟨w.heap.size,3,none⟩ (.slice none 0 0)).heap[w.heap.size]? =some (.cells #[.slice (some ⟨g,0,none⟩) k2 pc,.slice DA k2 dc,.slice NA k2 nc,.slice none 0 0] 77 (0,0)):=by
      rw[zX hg3 _];rfl
     have ho:Oth 77 wa ((((wa.setCell ⟨w.heap.size,0,none⟩ (.slice (some ⟨g,0,none⟩) k2 pc)).setCell ⟨w.heap.size,1,none⟩ (.slice DA k2 dc)).setCell ⟨w.heap.size,2,none⟩ (.slice NA k2 nc)).setCell ⟨w.heap.size,3,none⟩ (.slice none 0 0)):=((Oth.set (p:=⟨w.heap.size,0,none⟩) HRR.out _).trans (Oth.set (p:=⟨w.heap.size,1,none⟩) hg1 _)).trans ((Oth.set (p:=⟨w.heap.size,2,none⟩) hg2 _).trans (Oth.set (p:=⟨w.heap.size,3,none⟩) hg3 _))
     have hxF:Ext w ((((wa.setCell ⟨w.heap.size,0,none⟩ (.slice (some ⟨g,0,none⟩) k2 pc)).setCell ⟨w.heap.size,1,none⟩ (.slice DA k2 dc)).setCell ⟨w.heap.size,2,none⟩ (.slice NA k2 nc)).setCell ⟨w.heap.size,3,none⟩ (.slice none 0 0)):=((((HX2.out.1.trans zt6).setCell (p:=⟨w.heap.size,0,none⟩) Zr _).setCell (p:=⟨w.heap.size,1,none⟩) Zr _).setCell (p:=⟨w.heap.size,2,none⟩) Zr _).setCell (p:=⟨w.heap.size,3,none⟩) Zr _
     clear hg1 hg2 hg3;generalize ((((wa.setCell ⟨w.heap.size,0,none⟩ (.slice (some ⟨g,0,none⟩) k2 pc)).setCell ⟨w.heap.size,1,none⟩ (.slice DA k2 dc)).setCell ⟨w.heap.size,2,none⟩ (.slice NA k2 nc)).setCell ⟨w.heap.size,3,none⟩ (.slice none 0 0))=wf at*
     have y0:wf.cell? ⟨w.heap.size,0,none⟩=some (.slice (some ⟨g,0,none⟩) k2 pc):=by simp[World.cell?,hfb]
     have y1:wf.cell? ⟨w.heap.size,1,none⟩=some (.slice DA k2 dc):=by simp[World.cell?,hfb]
     have y2:wf.cell? ⟨w.heap.size,2,none⟩=some (.slice NA k2 nc):=by simp[World.cell?,hfb]
     have y3:wf.cell? ⟨w.heap.size,3,none⟩=some (.slice none 0 0):=by simp[World.cell?,hfb]
     obtain⟨hPl,hPs,zus,zt5,zu4⟩:=HP7.out;have hPk:els'.length=k2:=by have:=HPN.out;rw[HPE.out,length_map]at this;exact this
     have HI2:=HI.out;rw[<-HPN.out]at HI2;have hrowA:VRowV wa g els':=by
      obtain⟨cur,hg,hc⟩:=zus;exact⟨cur,(HO.out.at_ (zi hg) zup).trans hg,hc⟩
     have hokA:∀z∈els',z.ok wf:=fun z hz=>⟨((zt5 z hz).1.keep fun b cs fr hb=>HO.out.at_ (zi hb) (fun e=>by
      rw[e,zru.out]at hb;injection hb with hb
      injection hb with _ he
      exact absurd he ac)).oth ho ac,(zt5 z hz).2⟩
     refine bodyPost_ret (v:= .agg #[.slice (some ⟨g,0,none⟩) k2 pc,.slice DA k2 dc,.slice NA k2 nc,.slice none 0 0]) (by simp[results,Tryz.results41,go_sem,y0,y1,y2,y3]) rfl ⟨g,pc,dc,nc,DA,NA,els',by rw[hPk],hPl,hPs,hrowA.oth ho ac,hokA,?_,?_,hxF.toStep⟩
     ·rw[<-HPE.out];exact HI2.duals.oth ho ac ac
     ·rw[<-HPE.out];exact HI2.norms.oth ho ac
end
section
open La
section
variable {m L P:List (List Int)} {q:Int}
theorem zcS(h:VecList m q false L):(ZS L).Nodup:=by
 have hn:=h.nodup;have hp:∀x∈L,0<zD x:=fun x hx=>((h.mem x).1 hx).2.1
 clear h;induction L with
 |nil=>exact List.nodup_nil
 |cons x L ih=>
  have hn':=nodup_cons.1 hn;have ih:=ih hn'.2 fun y hy=>hp y (by simp[hy])
  have h0:=hp x af;have e:ZS (x::L)=x::(x.map fun c=>-c)::ZS L:=by simp[ZS]
  rw[e];refine nodup_cons.2 ⟨fun hm=>?_,nodup_cons.2 ⟨fun hm=>?_,ih⟩⟩
  ·rcases mem_cons.1 hm with e|hm
   ·have:=jM x;rw[<-e]at this;omega
   ·rcases zcR.1 hm with hm|hm
    ·exact hn'.1 hm
    ·have:=hp _ (List.mem_cons_of_mem _ hm);rw[jM]at this;omega
  ·rcases zcR.1 hm with hm|hm
   ·have:=hp _ (List.mem_cons_of_mem _ hm);rw[jM]at this;omega
   ·rw[zcH]at hm;exact hn'.1 hm
theorem zeH(h:VecList m q false L)(x:List Int):x∈ZS L↔x.length=m.length/\zD x≠0/\zh m x<=q:=by
 rw[zcR,h.mem,h.mem,jM,jl,length_map];constructor
 ·rintro(⟨h1,h2,h3,-⟩|⟨h1,h2,h3,-⟩)
  ·exact⟨h1,aa,h3⟩
  ·exact⟨h1,aa,h3⟩
 ·rintro⟨h1,h2,h3⟩;rcases Int.lt_or_gt_of_ne h2 with h4|h4
  ·exact .inr ⟨h1,aa,h3,fun e=>by cases e⟩
  ·exact .inl ⟨h1,h4,h3,fun e=>by cases e⟩
theorem zby(h:VecList m q false L)(hp:P.Perm (ZS L))(hs:P.Pairwise fun x y=>zn x y<0):PtsOf m q P:=⟨hs,fun x=>by rw[hp.mem_iff,zeH h]⟩
theorem zeI(hp:P.Perm (ZS L)):P.length=2*L.length:=by rw[hp.length_eq,zcQ]
theorem PtsOf.nb(h:PtsOf m q P)(hr:RedOK m)(hx:x∈P):0<=zh m x/\zh m x<=q:=⟨Jw hr x ((h.mem x).1 hx).1,((h.mem x).1 hx).2.2⟩
theorem PtsOf.zc(h:PtsOf m q P):∀x∈P,x.length=m.length:=fun x hx=>((h.mem x).1 hx).1
theorem PtsOf.ip(h:PtsOf m q P)(hr:RedOK m):∀x∈P,∀y∈P,zE m x y=zx (zY m x) y:=fun x hx y hy=>by
 rw[zbv hr.sym];exact zcF (zV hr.small) (h.zc y hy) (h.zc x hx)
theorem ziV(hr:RedOK m)(hk:k<m.length):zh m (ZJ m.length k)=ent m k k:=by rw[<-Qf (zV hr.small) _ (zaK _ _),zpF hk hk]
theorem ziW(hk:k<n):0<zD (ZJ n k):=by
 unfold ZJ;induction n generalizing k with
 |zero=>omega
 |succ n ih=>
  rw[List.replicate_succ]
  cases k with
  |zero=>simp[zD]
  |succ k=>rw[List.set_cons_succ];simpa[zD] using ih aa
theorem PtsOf.unit(h:PtsOf m q P)(hr:RedOK m)(hk:k<m.length)(hq:ent m k k<=q):ZJ m.length k∈P:=
 (h.mem _).2 ⟨zaK _ _,by have:=ziW hk;omega,by rw[ziV hr hk];exact hq⟩
theorem zeJ(hr:RedOK m)(hq:0<=q)(hq1:q<1073741824)(h:VecList m q false L):(∀y∈ZS L,-9223372036854775808<=zh m y/\zh m y<=9223372036854775807)/\∀x∈L,x.length=m.length/\∀a∈x,-4611686018427387904<=a/\a<=4611686018427387904:=by
 refine⟨fun y hy=>?_,fun x hx=>?_⟩
 ·obtain⟨h1,-,h3⟩:=(zeH h y).1 hy;have:=Jw hr y h1;omega
 ·obtain⟨k,hk,rfl⟩:=List.getElem_of_mem hx;obtain⟨h1,h2,-⟩:=zoY hr hq hq1 h (Ze hk);exact⟨h1,fun a ha=>by have:=h2 a ha;omega⟩
end
def ZA(k:Nat)(c:Int):List (List Int):=(List.range k).map fun i=>(List.replicate k 0).set i c
theorem jV(k:Nat)(c:Int):(ZA k c).length=k:=by simp[ZA]
theorem zeK(c:Int)(hi:i<k)(hj:j<k):ent (ZA k c) i j=if j=i then c else 0:=by
 have h:(ZA k c)[i]? =some ((List.replicate k 0).set i c):=by simp[ZA,hi]
 unfold ent;simp only[List.getD_eq_getElem?_getD];rw[h,Option.getD_some,getElem?_set];by_cases e:j=i
 ·subst e;simp[hj]
 ·rw[if_neg (fun q=>e q.symm),if_neg e];simp[hj]
theorem zeL:∀{k:Nat},1<=k->k<=4->∀{c:Int},1<=c->c<=3->zM (ZA k c)=true:=by
 intro k h1 h2 c h3 h4;have hc:c=1∨c=2∨c=3:=aa
 have hk:k=1∨k=2∨k=3∨k=4:=aa
 rcases hc with rfl|rfl|rfl<;>rcases hk with rfl|rfl|rfl|rfl<;>decide+kernel
def jc(n y:Nat)(e:Int):List Int:=(List.replicate n 0).set y e
theorem zeM(n y:Nat)(e:Int):(jc n y e).length=n:=by simp[jc]
theorem zcT{y:Nat}(e:Int)(hy:y<n):(jc n y e).getD j 0=if j=y then e else 0:=by
 unfold jc;rw[List.getD_eq_getElem?_getD,getElem?_set];by_cases h:j=y
 ·subst h;simp[hy]
 ·rw[if_neg (fun q=>h q.symm),if_neg h];by_cases hj:j<n<;>simp[hj]
theorem ziX(c:Int){y1 y2:Nat}(e1 e2:Int)(h1:y1<k)(h2:y2<k):zE (ZA k c) (jc k y1 e1) (jc k y2 e2)=if y2=y1 then e1*(c*e2) else 0:=by
 unfold zE;rw[jV,QJ h1 (fun i _ hne=>by rw[zcT e1 h1,if_neg hne,Int.zero_mul]),zcT e1 h1,if_pos rfl,QJ h2 (fun j _ hne=>by rw[zcT e2 h2,if_neg hne,Int.mul_zero]),zcT e2 h2,if_pos rfl,zeK c h1 h2];by_cases e:y2=y1
 ·rw[if_pos e,if_pos e]
 ·rw[if_neg e,if_neg e,Int.zero_mul,Int.mul_zero]
theorem zqb{ys:List Nat}{es:Nat->Int}(hl:ys.length=k)(hp:ys.Perm (List.range k))(he:∀j,es j=1∨es j=-1):IsoC (ZA k c) (ZA k c) (ys.mapIdx fun j y=>jc k y (es j)):=by
 have hy:∀i,i<k->∃y,ys[i]? =some y/\y<k:=fun i hi=>by
  obtain⟨y,h⟩:∃y,ys[i]? =some y:=⟨_,Ze aa⟩;exact⟨y,h,by simpa using hp.mem_iff.1 (Zm h)⟩
 have zsX:∀i y,ys[i]? =some y->(ys.mapIdx fun j y=>jc k y (es j)).getD i []=jc k y (es i):=fun i y h=>by
  rw[List.getD_eq_getElem?_getD,List.getElem?_mapIdx,h];rfl
 refine⟨by rw[List.length_mapIdx,jV];exact hl,rfl,fun x hx=>?_,fun i j hi hj=>?_⟩
 ·obtain⟨i,hi,rfl⟩:=List.getElem_of_mem hx;rw[List.getElem_mapIdx,zeM,jV]
 ·rw[jV]at hi hj;obtain⟨y1,a1,b1⟩:=hy i hi;obtain⟨y2,a2,b2⟩:=hy j hj;rw[zsX i y1 a1,zsX j y2 a2,ziX c _ _ b1 b2,zeK c hi hj];have hnd:ys.Nodup:=hp.nodup_iff.2 List.nodup_range;by_cases e:j=i
  ·subst e;rw[a1]at a2;injection a2 with a2
   rw[if_pos a2.symm,if_pos rfl];rcases he j with h|h<;>rw[h]<;>omega
  ·rw[if_neg e,if_neg];intro h;subst h;obtain⟨l1,q1⟩:=Zg.1 a1;obtain⟨l2,q2⟩:=Zg.1 a2;have hp:=List.pairwise_iff_getElem.1 hnd;rcases Zl i j with hij|hij
   ·exact hp i j l1 l2 hij (q1.trans q2.symm)
   ·exact hp j i l2 l1 aa (q2.trans q1.symm)
theorem zqc(h0:1<=k)(h1:k<=4)(h3:1<=c)(h4:c<=3)(hP:PtsOf (ZA k c) c P){y:Nat}(hy:y<k){e:Int}(he:e=1∨e=-1):jc k y e∈P:=by
 have hr:=Zk (zeL h0 h1 h3 h4);refine(hP.mem _).2 ⟨by rw[zeM,jV],fun hz=>?_,?_⟩
 ·have h2:=Jy hz e (by
   refine Zm (i:=y) ?_;unfold jc;rw[List.getElem?_set_self (by simp;exact hy)])
  omega
 ·rw[<-Qf (zV hr.small) _ (by rw[zeM,jV]),ziX c _ _ hy hy,if_pos rfl];rcases he with rfl|rfl<;>omega
theorem zqd(h0:1<=k)(hc:0<=c):Zu (ZA k c) k=c:=by
 have h1:∀j,j<=k->Zu (ZA k c) j=if j=0 then 0 else c:=fun j=>by
  induction j with
  |zero=>intro _;rfl
  |succ j ih=>
   intro h;unfold Zu;rw[ih aa,zeK c ((aa:j<k)) aa,if_pos rfl];split<;>simp<;>omega
 rw[h1 k Zr,if_neg aa]
end
section
open Go.RowKit La
structure OnlyS(S:Nat->Prop)(w w':World):Prop where
 b0:Below 0 w w'
 rest:∀b,b<w.heap.size->¬S b->w'.heap[b]? =w.heap[b]?
section
variable {S S':Nat->Prop} {w w' w2 w0:World}
theorem OnlyS.size(h:OnlyS S w w'):w.heap.size<=w'.heap.size:=h.b0.size
theorem OnlyS.refl(S:Nat->Prop)(w:World):OnlyS S w w:=⟨Below.refl _ _,fun _ _ _=>rfl⟩
theorem OnlyS.trans(h:OnlyS S w w')(h':OnlyS S w' w2):OnlyS S w w2:=⟨h.b0.trans h'.b0,fun b hb hs=>(h'.rest b (Nat.lt_of_lt_of_le hb h.size) hs).trans (h.rest b hb hs)⟩
theorem OnlyS.mono(h:OnlyS S w w')(hs:∀b,b<w.heap.size->S b->S' b):OnlyS S' w w':=⟨h.b0,fun b hb h'=>h.rest b hb fun q=>h' (hs b hb q)⟩
theorem OnlyS.of_ext(h:Ext w w'):OnlyS S w w':=⟨h.below.mono (Nat.zero_le _),fun b hb _=>h.below.block b hb⟩
theorem OnlyS.of_only(h:Only g w w')(hg:S g):OnlyS S w w':=⟨h.below.mono (Nat.zero_le _),fun b hb hs=>h.at_ hb fun e=>hs (e▸hg)⟩
theorem OnlyS.set{p:Addr}(hg:S p.block)(u:Value):OnlyS S w (w.setCell p u):=⟨(Below.refl 0 w).setCell (Nat.zero_le _) u,fun b _ hs=>Below.heap_setCell w p u b fun e=>hs (e▸hg)⟩
theorem OnlyS.ext(h:OnlyS S w w')(hx:Ext w0 w)(hS:∀b,S b->w0.heap.size<=b):Ext w0 w':=
 ⟨hx.below.trans ⟨h.b0.os,h.b0.tape,h.b0.output,h.b0.size,fun b hb=>h.rest b (Nat.lt_of_lt_of_le hb hx.size) fun q=>absurd (hS b q) aa⟩⟩
theorem OnlyS.heap(h:OnlyS S w w'){b:Nat}{o:Obj}(hb:w.heap[b]? =some o)(hs:¬S b):w'.heap[b]? =some o:=(h.rest b (zi hb) hs).trans hb
end
section
variable {P:Program} {w:World}
theorem ziY{ops:Array Oper}{rest:List Oper}{o:Oper}{a:Act}{Q:Exit->Act->World->Prop}(hgd:o.guard=none)(s x:Operand)(t:TypeId)
  (ho:o.op= .call {callee:= .builtin .append,args:=#[s,x],argTypes:=#[t,t]})
  (ze:Nat) (e:TypeId) (z:Value) (size bytes:Nat) (ht:P.underlying t=some (.slice e)) (hi:(P.info? e).map (fun i=>(i.zero,i.size,i.bytes))=some (some z,size,bytes))
  (hzs:z.cells.size=size) (hsz:0<size) (hb:bytes<=128)
  (A:Option Addr) (n c:Nat) (xs:List Value) (hs:a.eval s= .slice A n c) (zsq:Own w ze e size A n c xs)
  (ad:Addr) (m c':Nat) (news:List Value) (hx:a.eval x= .slice (some ad) m c') (zsA:Arr w (some ad) e news) (hl:news.length=m*size) (h1:∀u∈news,u.oneCell'=true)
  (h63:n+m<=1099511627776) (zsK:ze<=w.heap.size)
  (h:∀A1 c1 w',Own w' ze e size A1 (n+m) c1 (xs++news)->Grow ze e w w'->Grew A A1 w w'->wpList P ops Q rest (a.put o.dst (.slice A1 (n+m) c1)) w'):wpList P ops Q (o::rest) a w:=by
 refine wpList_plain hgd fun K hK=>?_
 obtain⟨A1,c1,w',zsV,h2,h3,h4⟩:=zdJ (P:=P) w ze t o.type e z size bytes ht hi hzs hsz hb A n c xs zsq ad m c' news zsA hl h1 h63 zsK;unfold Oper.wp execOp;simp only[ho,resolve,invoke,builtin,Sem.run_bind,Sem.run_pure,Result.andThen_ok,List.map_toArray,List.map_cons,List.map_nil,hs,hx,zsV];exact hK _ _ (h A1 c1 w' h2 h3 h4)
end
def jd(cd:Bool)(m P cols:List (List Int))(x:List Int):Int:=if cd then ZR m P cols x else 0
def Z5(cd:Bool)(b Q:List (List Int))(k:Nat):Int:=if cd then ZR b Q (qY b.length k) (ZJ b.length k) else 0
def ZB(cd:Bool)(b Q:List (List Int))(k:Nat):Int:=if cd then Z4 b Q (qY b.length k) else 0
theorem zbz(m P cols:List (List Int))(p:List Int):ZR m P (cols++[p])=qQ m (ZR m P cols) p:=by unfold ZR;rw[List.foldl_append];rfl
theorem ziZ(m P cols:List (List Int))(x:List Int):0<=ZR m P cols x/\ZR m P cols x<18446744073709551616:=by
 rcases List.eq_nil_or_concat cols with rfl|⟨l,p,rfl⟩
 ·exact zaN _
 ·rw[List.concat_eq_append,zbz];exact ziD _ _ _ _
theorem zi0(n k:Nat):qY n (k+1)=qY n k++[ZJ n k]:=by simp[qY,range_succ]
structure SeaC where
 sb:Nat
 n:Nat
 N:Nat
 bA:Option Addr
 bc:Nat
 PA:Option Addr
 pc:Nat
 DA:Option Addr
 dc:Nat
 NA:Option Addr
 nc:Nat
 CV:Value
 cb:Nat
 hs:List Nat
 TA:Option Addr
 tc:Nat
 ob:Nat
 cd:Bool
def SeaC.cells(c:SeaC)(SA:Option Addr)(k sc:Nat):Array Value:=#[.slice c.bA c.n c.bc,.slice c.PA c.N c.pc,.slice c.DA c.N c.dc,.slice c.NA c.N c.nc,c.CV,.slice SA k sc,.slice (some ⟨c.cb,0,none⟩) (c.n+1:Nat) (c.n+1:Nat),.slice c.TA c.n c.tc,.slice (some ⟨c.ob,0,none⟩) (c.n+1:Nat) (c.n+1:Nat),.bool c.cd]
def ZT(b:List (List Int))(n:Nat)(f:Nat->Int):List Value:=(List.range (n*2)).map fun t=>if t%2=0 then .int .i64 (ent b (t / 2) (t / 2)) else .int .u64 (f (t / 2))
def J5(cd:Bool)(b Q:List (List Int))(n:Nat):List Value:=ZT b n (Z5 cd b Q)
theorem zqe(b:List (List Int))(n:Nat)(f:Nat->Int):(ZT b n f).length=n*2:=by simp[ZT]
theorem zi1(b:List (List Int))(f:Nat->Int)(h:k<n):(ZT b n f)[k*2]? =some (.int .i64 (ent b k k))/\(ZT b n f)[k*2+1]? =some (.int .u64 (f k)):=by
 unfold ZT;rw[getElem?_map,getElem?_map,getElem?_range aa,getElem?_range aa];simp only[Option.map_some];rw[if_pos aa,if_neg aa,(aa:k*2 / 2=k),(aa:(k*2+1) / 2=k)];exact⟨rfl,rfl⟩
theorem zqf(b:List (List Int))(n:Nat)(f:Nat->Int):ZT b (n+1) f=ZT b n f++[.int .i64 (ent b n n),.int .u64 (f n)]:=by
 unfold ZT;rw[(aa:(n+1)*2=n*2+1+1),range_succ,range_succ,map_append,map_append,List.append_assoc];simp only[List.map_cons,List.map_nil,List.singleton_append];rw[if_pos aa,if_neg aa,(aa:n*2 / 2=n),(aa:(n*2+1) / 2=n)]
theorem zeN{b:List (List Int)}(h:∀j,j<n->f j=f' j):ZT b n f=ZT b n f':=by
 refine List.map_congr_left fun t ht=>?_
 rw[h (t / 2) (by have:=List.mem_range.1 ht;omega)]
theorem zqg(b:List (List Int))(f:Nat->Int)(v:Int)(hk:k<n):(ZT b n f).set (k*2+1) (.int .u64 v)=ZT b n (fun j=>if j=k then v else f j):=by
 refine List.ext_getElem? fun t=>?_
 rw[getElem?_set,zqe];unfold ZT;by_cases e:k*2+1=t
 ·subst e;rw[if_pos rfl,if_pos aa,getElem?_map,getElem?_range aa];simp only[Option.map_some];rw[if_neg aa,if_pos aa]
 ·rw[if_neg e,getElem?_map,getElem?_map];by_cases ht:t<n*2
  ·rw[getElem?_range ht];simp only[Option.map_some];by_cases h2:t%2=0
   ·rw[if_pos h2,if_pos h2]
   ·rw[if_neg h2,if_neg h2,if_neg aa]
  ·rw[List.getElem?_eq_none (by simp;omega)];rfl
def qo(n:Nat)(f:Nat->Int):List Int:=(List.range (n+1)).map f
theorem zi2(f:Nat->Int)(v:Int)(hk:k<=n):(qo n f).set k v=qo n (fun j=>if j=k then v else f j):=by
 refine List.ext_getElem? fun t=>?_
 unfold qo;rw[getElem?_set,length_map,List.length_range];by_cases e:k=t
 ·subst e;rw[if_pos rfl,if_pos aa,getElem?_map,getElem?_range aa];simp
 ·rw[if_neg e,getElem?_map,getElem?_map];by_cases ht:t<n+1
  ·rw[getElem?_range ht];simp only[Option.map_some];rw[if_neg (fun q=>e q.symm)]
  ·rw[List.getElem?_eq_none (by simp;omega)];rfl
theorem zeO(h:∀j,j<=n->f j=f' j):qo n f=qo n f':=List.map_congr_left fun t ht=>h t (by have:=List.mem_range.1 ht;omega)
structure SeaM(c:SeaC)(B:Nat)(w:World)(a P:List (List Int))(tot:List Int)(tv:List Value)(SA:Option Addr)(sc:Nat)(st:List Nat)(zc:List (List Int)):Prop where
 blk:w.heap[c.sb]? =some (.cells (c.cells SA st.length sc) 182 (0,0))
 heads:VRow w c.cb 75 (c.hs.map (Q8 c.N))
 rws:∀(j g:Nat)(r:List Int),c.hs[j]? =some g->zc[j]? =some r->Row w g 155 .u64 r
 hl:c.hs.length=c.n+1
 rl:zc.length=c.n+1
 all:∀r∈zc,r.length=c.N
 dist:∀(i j g:Nat),c.hs[i]? =some g->c.hs[j]? =some g->i=j
 tots:Row w c.ob 155 .u64 tot
 tl:tot.length=c.n+1
 obn:c.ob∉c.hs
 trs:Own w B 184 2 c.TA c.n c.tc tv
 pts:Mat64 w c.PA P
 duals:Mat64 w c.DA (P.map (zC a))
 norms:Ints w c.NA 2 .i64 (P.map (zh a))
 plen:P.length=c.N
 own:Own w B 3 1 SA st.length sc (st.map fun i=>Value.int .i64 (i:Nat))
 bsb:B<=c.sb
 bcb:B<=c.cb
 bob:B<=c.ob
 bhs:∀g∈c.hs,B<=g
 stl:∀i∈st,i<c.N
def zu(P:List (List Int))(st:List Nat):List (List Int):=st.map fun i=>P.getD i []
theorem zqh(P:List (List Int))(st:List Nat)(k:Nat):zu P (st.take k)=(zu P st).take k:=by simp[zu,List.map_take]
theorem zi3(P:List (List Int))(st:List Nat)(i:Nat):zu P (st++[i])=zu P st++[P.getD i []]:=by simp[zu]
def RowsOK(cd:Bool)(n:Nat)(a P:List (List Int))(st:List Nat)(zc:List (List Int)):Prop:=∀j,j<=st.length∨(cd=false/\j<=n)->zc[j]? =some (P.map (jd cd a P (zu P (st.take j))))
theorem RowsOK.push{a:List (List Int)}{st:List Nat}{zc:List (List Int)}(h:RowsOK cd n a P st zc)(hx:P[i]? =some x)(hk:st.length<n)(hr:zc.length=n+1):
  RowsOK cd n a P (st++[i]) (if cd then zc.set (st.length+1) (P.map (qQ a (ZR a P (zu P st)) x)) else zc):=fun j hj=>by
 have hg:P.getD i []=x:=by rw[List.getD_eq_getElem?_getD,hx];rfl
 cases cd with
 |false=>
  have:=h j (.inr ⟨rfl,by simp at hj;omega⟩);rw[if_neg ac,this];rfl
 |true=>
  rw[if_pos rfl];have hj:j<=st.length+1:=by simpa using hj
  by_cases e:j=st.length+1
  ·subst e;rw[List.getElem?_set_self aa,List.take_of_length_le af,zi3,hg];congr 2
   funext y
   unfold jd;rw[if_pos rfl,zbz]
  ·rw[List.getElem?_set_ne aa,List.take_append_of_le_length aa];exact h j (.inl aa)
theorem RowsOK.keep{a:List (List Int)}{st:List Nat}{zc:List (List Int)}(h:RowsOK cd n a P st zc)(hc:cd=true):RowsOK cd n a P st (zc.set (st.length+1) r):=fun j hj=>by
 have hj:j<=st.length:=by
  rcases hj with hj|hj
  ·exact hj
  ·rw[hc]at hj;cases hj.1
 rw[List.getElem?_set_ne aa];exact h j (.inl hj)
theorem RowsOK.pop{a:List (List Int)}{st:List Nat}{zc:List (List Int)}(h:RowsOK cd n a P st zc)(hk:k<=st.length):RowsOK cd n a P (st.take k) zc:=fun j hj=>by
 rw[List.take_take];rcases hj with hj|hj
 ·rw[length_take]at hj;rw[Nat.min_eq_left aa];exact h j (.inl aa)
 ·have:=h j (.inr hj);rw[this,hj.1];rfl
theorem zqi(cd:Bool)(a b P Q cols:List (List Int))(x:List Int)(hk:cols.length=k):Zz cd a b P Q cols x=(decide (zh a x=ent b k k/\jd cd a P cols x=Z5 cd b Q k)&&((List.range k).all fun j=>decide (wI (zE a (cols.getD j []) x)=ent b j k))&&(!cd||decide (Z4 a P (cols++[x])=ZB cd b Q (k+1)))):=by
 subst hk;unfold Zz jd Z5 ZB
 cases cd
 ·simp
 ·simp only[Bool.not_true,Bool.false_or,if_true,Bool.decide_and]
theorem zqj{p:Nat->Bool}(hj:j<k)(h:p j=false):(List.range k).all p=false:=by
 rw[List.all_eq_false];exact⟨j,by simpa using hj,by rw[h];decide⟩
def SeaS(c:SeaC)(SA:Option Addr)(g:Nat):Prop:=g=c.sb∨g∈c.hs∨∃x,SA=some x/\x.block=g
section
variable {c:SeaC} {B:Nat} {w w' w2:World} {a P:List (List Int)} {tot:List Int} {tv:List Value} {SA:Option Addr} {sc:Nat} {st:List Nat} {zc:List (List Int)}
theorem Je{b1 b2:Nat}{cs1 cs2:Array Value}{e1 e2:TypeId}{f1 f2:Nat×Nat}(h1:w.heap[b1]? =some (.cells cs1 e1 f1))(h2:w.heap[b2]? =some (.cells cs2 e2 f2))(hne:e1≠e2):b1≠b2:=fun e=>by
 subst e;rw[h1]at h2;injection h2 with h2
 injection h2 with _ he
 exact hne he
theorem SeaM.ext(h:SeaM c B w a P tot tv SA sc st zc)(hx:Ext w w'):SeaM c B w' a P tot tv SA sc st zc:=
 ⟨zg hx h.blk,zg hx h.heads,fun j g r h1 h2=>(h.rws j g r h1 h2).ext hx,h.hl,h.rl,h.all,h.dist,h.tots.ext hx,h.tl,h.obn,h.trs.ext hx,h.pts.ext hx,h.duals.ext hx,h.norms.ext hx,h.plen,h.own.ext hx,h.bsb,h.bcb,h.bob,h.bhs,h.stl⟩
theorem SeaM.color(h:SeaM c B w a P tot tv SA sc st zc)(hg:c.hs[j]? =some g)(hr:Row w' g 155 .u64 r)(hrl:r.length=c.N)(ho:Only g w w'):SeaM c B w' a P tot tv SA sc st (zc.set j r):=by
 have hj:j<zc.length:=by rw[h.rl,<-h.hl];exact(Zg.1 hg).1
 obtain⟨r0,hr0⟩:∃r0,zc[j]? =some r0:=⟨_,Ze hj⟩;have hR:=h.rws j g r0 hg hr0;have hot:Oth 155 w w':=ho.othU hR;have hgo:c.ob≠g:=fun e=>h.obn (e▸Zm hg)
 refine⟨hot _ _ _ _ ac h.blk,hot _ _ _ _ ac h.heads,fun i g' r' h1 h2=>?_,h.hl,by rw[List.length_set];exact h.rl,fun x hx=>?_,h.dist,h.tots.only ho hgo,h.tl,h.obn,h.trs.oth hot ac,h.pts.oth hot ac ac,h.duals.oth hot ac ac,h.norms.oth hot ac,h.plen,h.own.oth hot ac,h.bsb,h.bcb,h.bob,h.bhs,h.stl⟩
 ·by_cases e:i=j
  ·subst e;rw[hg]at h1;injection h1 with h1
   subst h1;rw[List.getElem?_set_self hj]at h2;injection h2 with h2
   subst h2;exact hr
  ·rw[List.getElem?_set_ne (fun q=>e q.symm)]at h2;exact(h.rws i g' r' h1 h2).only ho fun q=>e (h.dist i j g (q▸h1) hg)
 ·rcases List.mem_or_eq_of_mem_set hx with hx|rfl
  ·exact h.all x hx
  ·exact hrl
theorem SeaM.stack(h:SeaM c B w a P tot tv SA sc st zc){SA':Option Addr}{sc':Nat}{st':List Nat}(hot:Oth 3 w w')(zsq:Own w' B 3 1 SA' st'.length sc' (st'.map fun i=>Value.int .i64 (i:Nat)))(hst:∀i∈st',i<c.N):
  SeaM c B (w'.setCell ⟨c.sb,5,none⟩ (.slice SA' st'.length sc')) a P tot tv SA' sc' st' zc:=by
 have hb:=hot _ _ _ _ ac h.blk;have ho2:Oth 182 w' (w'.setCell ⟨c.sb,5,none⟩ (.slice SA' st'.length sc')):=Oth.set (p:=⟨c.sb,5,none⟩) hb _;exact⟨by rw[zX hb];rfl,ho2 _ _ _ _ ac (hot _ _ _ _ ac h.heads),fun j g r h1 h2=>ho2 _ _ _ _ ac (hot _ _ _ _ ac (h.rws j g r h1 h2)),h.hl,h.rl,h.all,h.dist,ho2 _ _ _ _ ac (hot _ _ _ _ ac h.tots),h.tl,h.obn,(h.trs.oth hot ac).oth ho2 ac,(h.pts.oth hot ac ac).oth ho2 ac ac,(h.duals.oth hot ac ac).oth ho2 ac ac,(h.norms.oth hot ac).oth ho2 ac,h.plen,zsq.oth ho2 ac,h.bsb,h.bcb,h.bob,h.bhs,hst⟩
theorem SeaM.cell(h:SeaM c B w a P tot tv SA sc st zc)(i:Nat):w.cell? ⟨c.sb,i,none⟩=(c.cells SA st.length sc)[i]? :=cell_of_row w c.sb i _ _ _ h.blk
theorem SeaM.sys(h:SeaM c B w a P tot tv SA sc st zc):SysM w c.sb 1 c.N c.pc c.dc c.PA c.DA a P:=⟨h.cell 1,h.cell 2,zi h.blk,h.pts,h.duals,h.plen⟩
theorem SeaM.row(h:SeaM c B w a P tot tv SA sc st zc)(hj:j<=c.n):∃g,c.hs[j]? =some g/\w.cell? ⟨c.cb,j,none⟩=some (.slice (some ⟨g,0,none⟩) c.N c.N)/\g<w.heap.size/\c.cb<w.heap.size/\c.sb≠g/\c.ob≠g:=by
 have hj':j<c.hs.length:=by rw[h.hl];omega
 obtain⟨g,hg⟩:∃g,c.hs[j]? =some g:=⟨_,Ze hj'⟩;obtain⟨r,hr⟩:∃r,zc[j]? =some r:=⟨_,Ze (by rw[h.rl];omega)⟩;have hR:=h.rws j g r hg hr;exact⟨g,hg,h.heads.cell (by rw[getElem?_map,hg];rfl),hR.lt,h.heads.lt,Je h.blk hR ac,fun e=>h.obn (e▸Zm hg)⟩
end
end
end Go.Proofs.YtgoaelchibpffaaGreat

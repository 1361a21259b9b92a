/- IvW R11f Vx11 R12b VerG VerS Sp12 -/
import Derived.Test.YtjehjkipcaohpaaGreatT25
set_option maxHeartbeats 8000000
set_option linter.unusedVariables false
set_option linter.unusedSimpArgs false
set_option linter.constructorNameAsVariable false
namespace Go.Proofs.YtjehjkipcaohpaaGreat
open Go.RowKit
open La
theorem JB (C:List (Int×Int)):(zF C).length=C.length*2:=by
 unfold zF;induction C with
 |nil=>rfl
 |cons p C ih=>rw [List.flatMap_cons,List.length_append,ih];simp;omega
theorem zdZ (C:List (Int×Int)):∀(i:Nat) (p:Int×Int),C[i]? =some p->(zF C)[i*2]? =some (.int .i64 p.1)/\(zF C)[i*2+1]? =some (.int .i64 p.2):=by
 induction C with
 |nil=>intro i p h;simp at h
 |cons q C ih=>
  intro i p h;have e:zF (q::C)= .int .i64 q.1:: .int .i64 q.2::zF C:=rfl;rw [e]
  cases i with
  |zero=>
   simp at h;subst h;simp
  |succ i=>
   rw [show (i+1)*2=i*2+1+1 by omega,show i*2+1+1+1=(i*2+1)+1+1 by omega];simp only [List.getElem?_cons_succ] at h |-
   exact ih i p h
theorem zd0 (C:List (Int×Int)):∀(i:Nat) (p:Int×Int),zF (C.set i p)=((zF C).set (i*2) (.int .i64 p.1)).set (i*2+1) (.int .i64 p.2):=by
 induction C with
 |nil=>intro i p;simp [zF]
 |cons q C ih=>
  intro i p;have e:∀q C,zF (q::C)= .int .i64 q.1:: .int .i64 q.2::zF C:=fun _ _=>rfl
  cases i with
  |zero=>simp [e]
  |succ i=>
   rw [show (i+1)*2=i*2+1+1 by omega,show i*2+1+1+1=(i*2+1)+1+1 by omega];simp only [List.set_cons_succ,e];rw [ih i p]
def IvBk (w:World) (g:Nat) (C:List (Int×Int)):Prop:=∃cs,VRow w g 64 cs/\cs.take (C.length*2)=zF C
section
variable {w w':World} {g:Nat} {C:List (Int×Int)}
theorem IvBk.cells (h:IvBk w g C) {i:Nat} {p:Int×Int} (hp:C[i]? =some p):w.cell? ⟨g,i*2,none⟩=some (.int .i64 p.1)/\w.cell? ⟨g,i*2+1,none⟩=some (.int .i64 p.2)/\w.frozen? ⟨g,i*2,none⟩=false/\w.frozen? ⟨g,i*2+1,none⟩=false:=by
 obtain ⟨cs,h1,h2⟩:=h;obtain ⟨a,b⟩:=zdZ C i p hp;have hi:=(Zg.1 hp).1;rw [<-h2,List.getElem?_take,if_pos (by omega)] at a b;exact ⟨h1.cell a,h1.cell b,h1.frozen _,h1.frozen _⟩
theorem IvBk.set (h:IvBk w g C) (i:Nat) (p:Int×Int):IvBk ((w.setCell ⟨g,i*2,none⟩ (.int .i64 p.1)).setCell ⟨g,i*2+1,none⟩ (.int .i64 p.2)) g (C.set i p):=by
 obtain ⟨cs,h1,h2⟩:=h;refine ⟨_,(h1.set (i*2) _).set (i*2+1) _,?_⟩;rw [List.length_set,List.take_set,List.take_set,h2,zd0]
theorem zhV {l:List Value} {j:Nat} {v:Value} (h:l[j]? =some v):l.set j v=l:=by
 obtain ⟨h1,h2⟩:=Zg.1 h;rw [<-h2,List.set_getElem_self]
theorem IvBk.set1 (h:IvBk w g C) {i:Nat} {p:Int×Int} (hp:C[i]? =some p) (x:Int):IvBk (w.setCell ⟨g,i*2,none⟩ (.int .i64 x)) g (C.set i (x,p.2)):=by
 obtain ⟨cs,h1,h2⟩:=h;refine ⟨_,h1.set (i*2) _,?_⟩;have hb:=(zdZ C i p hp).2;rw [List.length_set,List.take_set,h2,zd0];refine (zhV (by rw [List.getElem?_set_ne (by omega)];exact hb)).symm
theorem IvBk.set2 (h:IvBk w g C) {i:Nat} {p:Int×Int} (hp:C[i]? =some p) (x:Int):IvBk (w.setCell ⟨g,i*2+1,none⟩ (.int .i64 x)) g (C.set i (p.1,x)):=by
 obtain ⟨cs,h1,h2⟩:=h;refine ⟨_,h1.set (i*2+1) _,?_⟩;have hb:=(zdZ C i p hp).1;rw [List.length_set,List.take_set,h2,zd0];congr 1
 exact (zhV hb).symm
theorem IvBk.toV (h:IvBk w g C) (hb:∀p∈C,-9223372036854775808<=p.1/\p.1<=9223372036854775807/\-9223372036854775808<=p.2/\p.2<=9223372036854775807):IvV w (some ⟨g,0,none⟩) C:=by
 obtain ⟨cs,h1,h2⟩:=h;refine ⟨⟨64,?_⟩,hb⟩;have :=h1.arr.take (C.length*2);rw [h2] at this;exact this
theorem Own.ivB {zd n c:Nat} {A:Option Addr} (h:Own w zd 64 2 A n c (zF C)) (hl:C.length=n) (h0:0<n):∃g,A=some ⟨g,0,none⟩/\zd<=g/\g<w.heap.size/\IvBk w g C:=by
 obtain ⟨-,h2⟩:=h;rcases h2 with ⟨_,h0'⟩ |⟨g,cap,cur,hv,hb,hh,h3,h4,h5,h6⟩
 ·omega
 ·injection hv with hA hnn hc
  subst hA hc;refine ⟨g,rfl,hb,zA hh,cur.toList,by simpa [VRow] using hh,?_⟩;rw [hl];exact h6
end
theorem zb5 {C:List (Int×Int)} {i:Nat} {p:Int×Int} {P:Int×Int->Prop} (h:∀q∈C,P q) (hp:P p):∀q∈C.set i p,P q:=fun q hq=>by
 rcases List.mem_or_eq_of_mem_set hq with h1 |h1
 ·exact h q h1
 ·exact h1▸hp
def zhW (w:World) (its:List (Int×List Int)) (N:Nat) (s3 i:Value) (wr:World):Prop:=∃(k:Nat) (B:Option Addr) (d:Nat) (vs:List Value),k<=N/\i= .int .i64 k/\s3= .slice B k d/\Hid (MOwn wr w.heap.size B k d ((its.take k).map Prod.snd) vs)/\Ext w wr
set_option maxRecDepth 20000 in
theorem zoV {w0 w:World} {A:Option Addr} {c:Nat} {us:List Value} {its:List (Int×List Int)} (hA':Arr w0 A 45 us) (hV':ItV w0 us its) (hl:its.length<=1000000) [hx:Ext w0 w]:
  Calls Tryz.prog 53 #[.slice A its.length c] w (zcK w (its.map Prod.snd)):=by
 have HA:=Zh (hA'.ext hx);have HV:=Zh (hV'.ext hx);obtain ⟨N,hN⟩:∃N,N=its.length:=⟨_,rfl⟩;have HN:=Zh hN;rw [<-hN] at hl |-
 clear hA' hV' hN;unfold zcK;go_enter Tryz.func53,Tryz.ntmps53;go_wp2;go_loopw [3,8] (fun s3 i wr=>zhW w its N s3 i wr) (fun _ i _=>N-(intOf i).toNat)
 case atStart=>exact ⟨0,none,0,[],by omega,rfl,rfl,Zh (MOwn.nil _ _),Zi⟩
 case round=>
  unfold zhW at hrel;obtain ⟨k,B,d,vs,hk,rfl,rfl,HM,hxr⟩:=hrel;by_cases hlt:k<N
  ·obtain ⟨p,hp⟩:∃p,its[k]? =some p:=⟨_,Ze (by rw [<-HN.out];exact hlt)⟩;obtain ⟨xa,x⟩:=p;obtain ⟨X,cx,a1,a2,a3,a4,a5⟩:=HV.out.2 k _ hp;obtain ⟨b,o,rfl,z1,z3⟩:=HA.out.at_ a1;obtain ⟨b',o',hA',z2,-⟩:=HA.out.at_ a2;injection hA' with hA'
   injection hA' with y1 y2
   subst y1 y2;rw [<-Nat.add_assoc] at z2;simp only at a3 a4 z1 z2;have oB:Old b w:=⟨z3⟩;have hc1:wr.cell? ⟨b,o+k*2,none⟩=some (.int .i64 xa):=(zi w).trans z1;have hc2:wr.cell? ⟨b,o+k*2+1,none⟩=some (.slice X x.length cx):=(zi w).trans z2;have HX:=Zh a3;have HTK:Hid ((its.take (k+1)).map Prod.snd=(its.take k).map Prod.snd++[x]):=Zh (by rw [List.take_add_one,hp];simp);obtain ⟨xl,hxl⟩:∃xl,xl=x.length:=⟨_,rfl⟩
   have HXL:=Zh hxl;rw [<-hxl] at hc2 a4;clear a1 a2 a3 z1 z2 hp hxl;have zqy:Arr ((wr.alloc (.cells #[.int .i64 xa,.slice X xl cx] 45)).alloc (.cells #[.slice X xl cx] 37)) (some ⟨wr.heap.size+1,0,none⟩) 37 [.slice X xl cx]:=by
    have :=Arr.new (wr.alloc (.cells #[.int .i64 xa,.slice X xl cx] 45)) 37 #[.slice X xl cx];rwa [World.size_alloc] at this
   go_wp2_with (at_builtin;refine zI _ rfl _ _ 26 rfl w.heap.size 37 (.slice none 0 0) 1 24 Tryz.underlying26 qA rfl (by omega) (by omega) B k d vs rfl (HM.out.own.ext Zi) _ 1 1 [.slice X xl cx] rfl zqy (by simp) (by simp [Value.oneCell']) (by omega) (by have :=hxr.size;simp;omega) ?_;intro A4 d4 w4 zqd hg4)
   have hx4:Ext w w4:=hg4.ext (hxr.trans Zi) Zr;refine ⟨⟨k+1,A4,d4,vs++[.slice X xl cx],by omega,by go_num,rfl,Zh ?_,hx4⟩,by simp [intOf]<;>omega⟩;rw [HTK.out];rw [HXL.out] at zqd a4 |-
   exact HM.out.snoc (r:=x) Zi hg4 zqd (HX.out.ext (hxr.trans Zi)) a4 a5
  ·obtain rfl:k=N:=by omega
   have htk:its.take k=its:=List.take_of_length_le (by rw [<-HN.out];exact Zr);rw [htk] at HM;have HCP:=Zh HM.out.own.cap;go_wp2_with fail
   go_ret;exact ⟨B,d,by rw [List.length_map,<-HN.out];rfl,HM.out.mat,by rw [List.length_map,<-HN.out];exact HCP.out.1,HCP.out.2,Step.of _ _⟩
theorem zb6 (w:World):Mat64 w none []:=⟨[],rfl,Arr.nil,fun i r hr=>by simp at hr⟩
theorem zoW {α:Type} {A B D:List α} (h:A<+:D):(A++B<+:D↔B<+:D.drop A.length):=by
 obtain ⟨E,rfl⟩:=h;rw [List.prefix_append_right_inj,List.drop_left]
theorem zoX {α:Type} {x p:α} {T C:List α} {a:Nat} (h:C[a]? =some p):(x::T<+:C.drop a↔x=p/\T<+:C.drop (a+1)):=by
 obtain ⟨h1,h2⟩:=Zg.1 h;rw [List.drop_eq_getElem_cons h1,h2,List.cons_prefix_cons]
theorem zoY (m:List (List Int)) (b:Int) (k:Nat) (t:List Int) {p q:Nat} (h:p<=q):∃E,tK m b k t q=tK m b k t p++E:=by
 induction q with
 |zero=>obtain rfl:p=0:=by omega
        exact ⟨[],by simp⟩
 |succ q ih=>
  rcases Zl p (q+1) with h1 |h1
  ·obtain ⟨E,hE⟩:=ih (by omega);exact ⟨E++tE m b k ((zj m b (k+1) t+(q:Int))::t),by rw [zb0,hE,List.append_assoc]⟩
  ·obtain rfl:p=q+1:=by omega
   exact ⟨[],by simp⟩
def zad (w:World) (T:List (Int×Int)) (L:Nat) (C:List (Int×Int)) (a:Nat) (v:Int) (e:Ending) (w':World):Prop:=
 ∃r v':Int,e= .returned (.tuple #[.int .i64 r,.int .i64 v'])/\((T<+:C.drop a/\r=((a+T.length:Nat):Int)/\v'=min (v+(L:Int)) 16384)∨(¬T<+:C.drop a/\r=-1/\v'=0))/\Step w w'
def zhX (m:List (List Int)) (b:Int) (k:Nat) (t:List Int) (lo v:Int) (J:Nat) (C:List (Int×Int)) (a:Nat) (w0:World) (s4 s5 x:Value) (wr:World):Prop:=
 ∃(i a4:Nat) (v':Int),i<=J/\x= .int .i64 (lo+(i:Int))/\s4= .int .i64 a4/\Hid (a4=a+1+(tK m b k t i).length)/\s5= .int .i64 v'/\v'=min (v+((ZV m b (k+1) t i).length:Int)) 16384/\tK m b k t i<+:C.drop (a+1)/\Ext w0 wr
set_option maxRecDepth 20000 in
theorem zoZ {m:List (List Int)} {n:Nat} {za:Int} {C:List (Int×Int)} (hL:LLLed m) (h1:m.length=n) (hb:0<=za) (hb1:za<1073741824) (hC:C.length<=1099511627776) (k:Nat):
  ∀(w:World) (SB DB TA CA:Option Addr) (sc dc tc cc q a:Nat) (t:List Int) (v:Int),n=k+q+1->FrV w m SB DB->Ints w TA 2 .i64 t->t.length=q->(∀a∈t,-9223372036854775808<=a/\a<=9223372036854775807)->0<=left (ent m) za (k+1) t->IvV w CA C->a<=C.length->0<=v->v<=16384->
  Calls Tryz.prog 69 #[.agg #[.int .i64 n,.slice SB n sc,.slice DB (n+1) dc],.int .i64 za,.slice TA q tc,.slice CA C.length cc,.int .i64 a,.int .i64 v] w (zad w (tE m za k t) (zS m za k t).length C a v):=by
 induction k using Nat.strongRecOn with
 |ind k ih=>
  intro w SB DB TA CA sc dc tc cc q a t v hq hF hT htl htb h0 hI ha hv0 hvl;have IH:=Zh ih;clear ih;have hr:=ZF hL.red;have hn8:=hL.len8;have hkm:k<m.length:=by omega
  have htm:t.length=m.length-1-k:=by omega
  obtain ⟨v1,v2,v3,v4,v5,v6⟩:=zaZ hr hb hb1 hkm htm h0;have HIV:Hid (∀W,Ext w W->Calls Tryz.prog 108 #[.agg #[.int .i64 n,.slice SB n sc,.slice DB (n+1) dc],.int .i64 za,.slice TA q tc] W (zz W (.tuple #[.int .i64 (zj m za k t),.int .i64 (zB m za k t)]))):=Zh (fun W e=>
   zbY hF hL h1 hq hT htl htb (by omega) (by omega) h0 (by omega) (by omega) (by omega) (by omega))
  have HKL:=Zh (zhR m za k t);rw [zhP];unfold zad;obtain ⟨rest,hrs⟩:∃rest,rest=tR m za k t:=⟨_,rfl⟩;have HRS:=Zh hrs;rw [<-hrs];obtain ⟨lo,hlo⟩:∃lo,lo=zj m za k t:=⟨_,rfl⟩;obtain ⟨hi,hhi⟩:∃hi,hi=zB m za k t:=⟨_,rfl⟩;have HLO:=Zh (And.intro hlo hhi);rw [<-hlo] at v1 v2 v3 v4 HIV |-
  rw [<-hhi] at v1 v2 v5 v6 HIV |-
  have HFV:=Zh hF;have HTV:=Zh hT;have HTB:=Zh htb;have H0:=Zh h0;have HH1:=Zh h1;have HTL:=Zh htl;have HQ:=Zh hq;have HI:=Zh hI;have hqn:q<n:=by omega
  have hn9:n<=8:=by omega
  generalize hLL:(zS m za k t).length=L at*
  have HLL:=Zh hLL;clear hlo hhi h1 hkm hq htl hrs hF hT htb h0 hI hr htm hLL;by_cases hat:a<C.length
  ·obtain ⟨⟨x1,x2⟩,hxx⟩:∃p,C[a]? =some p:=⟨_,Ze hat⟩;have HXX:=Zh hxx;have HPC:=Zh (fun T=>zoX (x:=(lo,hi)) (T:=T) hxx);have hdc:decide ((C.length:Int)<=(a:Int))=false:=by simp;omega
   have hdn:decide (C.length<=a)=false:=by simp;omega
   have HCL:=Zh (And.intro hat ha);by_cases hxy:x1=lo/\x2=hi
   ·obtain ⟨rfl,rfl⟩:=hxy;have HPE:Hid (∀T,((x1,x2)::T<+:C.drop a↔T<+:C.drop (a+1))):=Zh (fun T=>by rw [HPC.out];simp);clear hxx HPC;go_enter Tryz.func69,Tryz.ntmps69;go_upto_region 2 with (go_at_call 108;refine (HIV.out _ Zi).mono ?_;rintro e w1 ⟨rfl,hs1⟩)
    obtain ⟨bc,oc,rfl,f1,f2,f3⟩:=(HI.out.ext (Zi:Ext w w1)).at_ HXX.out;simp only at f1 f2;go_upto_region 5 with fail
    clear f1 f2;have hfb:w1.heap[w.heap.size]? =some (.cells #[.int .i64 n,.slice SB n sc,.slice DB (n+1) dc] 89 (0,0)):=zg (Zi:Ext (w.alloc (.cells #[.int .i64 n,.slice SB n sc,.slice DB (n+1) dc] 89)) w1) (heap_alloc_new w _);have HFB:=Zh hfb;have hwl:w.heap.size<w1.heap.size:=zA hfb;have oW:Old w.heap.size w1:=⟨hwl⟩;have zqq:Ext w w1:=Zi;obtain ⟨⟨g0,g1,g2⟩,-,-⟩:=qY hfb;clear hfb
    cases k with
    |zero=>
     have hb0:((q:Int)+1==(n:Int))=true:=by have :=HQ.out;simp;omega
     obtain rfl:rest=[]:=HRS.out;have hLv:(L:Int)=x2-x1+1:=by
      have h3:=HLL.out;obtain ⟨h4,h5⟩:=HLO.out;rw [zS,List.length_map,List.length_range] at h3;rw [<-h3,h4,h5];unfold zH;omega
     go_wp2_with fail
     go_ret2
     refine ⟨_,_,rfl,.inl ⟨?_,?_,?_⟩,Step.of _ _⟩
     ·exact (HPE.out []).2 List.nil_prefix
     ·simp
     ·show min (v+min (x2-x1+1) 16384) 16384=min (v+(L:Int)) 16384;rw [hLv];omega
    |succ k=>
     have hr:=ZF hL.red;have hq0:=HQ.out;have hmj:=HH1.out;have htq:=HTL.out;have hkm:k+1<m.length:=by omega
     have htm:t.length=m.length-1-(k+1):=by omega
     obtain ⟨hlo,hhi⟩:=HLO.out;obtain ⟨J,hJ⟩:∃J,J=zH m za (k+1) t:=⟨_,rfl⟩;have hJ2:J=(x2-x1+1).toNat:=by rw [hJ,hlo,hhi];rfl
     have hre:rest=tK m za k t J:=by rw [hJ];exact HRS.out
     have hLv:(ZV m za (k+1) t J).length=L:=by rw [hJ,<-HKL.out];exact HLL.out
     have HK1:Hid (∀i,i<J->0<=left (ent m) za (k+1) ((x1+(i:Int))::t)):=Zh (fun i hi'=>by
      rw [hlo];exact qU hr t hkm htm H0.out (j:=i) (by rw [hJ] at hi';exact hi'))
     have HK4:Hid (∀i:Nat,tK m za k t (i+1)=tK m za k t i++tE m za k ((x1+(i:Int))::t)):=Zh (fun i=>by rw [zb0,<-hlo]);have HK5:Hid (∀i:Nat,(ZV m za (k+1) t (i+1)).length=(ZV m za (k+1) t i).length+(zS m za k ((x1+(i:Int))::t)).length):=Zh (fun i=>by rw [zdX,List.length_append,<-hlo];rfl);have HK6:Hid (∀i:Nat,i<=J->∃E,rest=tK m za k t i++E):=Zh (fun i hi'=>by
      rw [hre];exact zoY m za k t hi')
     have HRE:=Zh hre;have zpb:Hid (∀i,i<J->∀a∈(x1+(i:Int))::t,-9223372036854775808<=a/\a<=9223372036854775807):=Zh (fun i hi' a ha=>by
      rcases List.mem_cons.1 ha with rfl |ha
      ·omega
      ·exact HTB.out a ha)
     have hq1:q+1<n:=by omega
     have hbq:((q:Int)+1==(n:Int))=false:=by simp;omega
     have hhl:x2-x1+1=(J:Int):=by omega
     have HIH:=Zh (IH.out k (by omega));have HFR:Hid (∀W,Ext w1 W->W.cell? ⟨w.heap.size,0,none⟩=some (.int .i64 n)/\W.cell? ⟨w.heap.size,1,none⟩=some (.slice SB n sc)/\W.cell? ⟨w.heap.size,2,none⟩=some (.slice DB (n+1) dc)):=Zh (fun W e=>(qY (zg e HFB.out)).1);clear hre hr hq0 hmj htq hkm htm hlo hhi hJ hJ2 IH;have HLV:=Zh hLv;clear hLv;go_wp2_with fail
     clear oW g0 g1 g2;go_loopw [4,5,16] (fun s4 s5 x wr=>zhX m za k t x1 v J C a w1 s4 s5 x wr) (fun _ _ x _=>(x2-intOf x+1).toNat)
     case atStart=>exact ⟨0,a+1,v,by omega,by simp,by simp,Zh (by simp [tK]),rfl,by simp [ZV];omega,by simp [tK],Zi⟩
     case round=>
      unfold zhX at hrel;obtain ⟨i,a4,v',hi',rfl,rfl,HA4,rfl,hv',zsS,hxr⟩:=hrel;have ha4:=HA4.out;have HPR:=Zh zsS;have zu8:=zsS.length_le;rw [List.length_drop] at zu8;clear zsS;have hxw:Ext w wr:=zqq.trans hxr;obtain ⟨f0,f1,f2⟩:=HFR.out wr hxr;have oW2:Old w.heap.size wr:=⟨Nat.lt_of_lt_of_le hwl hxr.size⟩;by_cases hlt:i<J
      ·have hF:=HFV.out.ext hxw;have hT:=HTV.out.ext hxw;have hIw:=HI.out.ext hxw;have hle:x1+(i:Int)<=x2:=by omega
       have HLG:Hid (∀W,Ext wr W->Calls Tryz.prog 109 #[.int .i64 (x1+(i:Int)),.slice TA q tc] W (fun e w'=>∃A c,e= .returned (.slice A (q+1) c)/\Ints w' A 2 .i64 ((x1+(i:Int))::t)/\Step W w')):=Zh (fun W e=>by
        have :=zbV (w:=W) (c:=tc) (x1+(i:Int)) (hT.ext e) (by rw [HTL.out];omega);rw [HTL.out] at this;refine this.mono ?_;rintro e w' ⟨A,c,rfl,a1,-,-,a4⟩;exact ⟨A,c,by rw [List.length_cons,HTL.out],a1,a4⟩)
       have zv5:0<=v'/\v'<=16384:=by omega
       have HCN:Hid (∀(W:World) (A:Option Addr) (c:Nat),Ints W A 2 .i64 ((x1+(i:Int))::t)->Ext wr W->Calls Tryz.prog 69 #[.agg #[.int .i64 n,.slice SB n sc,.slice DB (n+1) dc],.int .i64 za,.slice A (q+1) c,.slice (some ⟨bc,oc,none⟩) C.length cc,.int .i64 a4,.int .i64 v'] W (zad W (tE m za k ((x1+(i:Int))::t)) (zS m za k ((x1+(i:Int))::t)).length C a4 v')):=Zh (fun W A c hI e=>
        HIH.out W SB DB A (some ⟨bc,oc,none⟩) sc dc c cc (q+1) a4 _ v' (by have :=HQ.out;omega) (hF.ext e) hI (by rw [List.length_cons,HTL.out]) (zpb.out i hlt) (HK1.out i hlt) (hIw.ext e) (by omega) (by omega) (by omega))
       unfold zad at HCN;have zpq:=Zh (HK4.out i);have zpH:=Zh (HK5.out i);have HSP:=Zh (fun T=>zoW (B:=T) HPR.out);have zp5:=Zh (HK6.out (i+1) (by omega));obtain ⟨t2,ht2⟩:∃t2,t2=(x1+(i:Int))::t:=⟨_,rfl⟩;rw [<-ht2] at HLG HCN zpq zpH;have HV':=Zh hv';clear hF hT hIw ht2 ha4 hv';generalize tE m za k t2=T2 at*
       generalize (zS m za k t2).length=L2 at*
       go_wp2_with fail
       go_region_held3 (fun w'=>w'.cell? ⟨w.heap.size,0,none⟩=some (.int .i64 n)/\w'.cell? ⟨w.heap.size,1,none⟩=some (.slice SB n sc)/\w'.cell? ⟨w.heap.size,2,none⟩=some (.slice DB (n+1) dc))
        (exact HFR.out _ Zi)
        (first
         |(go_at_call 109;refine (HLG.out _ Zi).mono ?_;rintro e w5 ⟨A5,c5,rfl,hI5,hs5⟩)
         |(go_at_call 69;refine (HCN.out _ _ _ hI5 Zi).mono ?_;rintro e w6 ⟨r6,v6,rfl,hd6,hs6⟩;have HD6:=Zh hd6;clear hd6))
       have zrW:Ext w1 w6:=hxr.trans Zi;rcases HD6.out with ⟨hp6,hr6,hv6⟩ |⟨hn6,hr6,hv6⟩
       ·obtain ⟨a5,ha5⟩:∃a5:Nat,a5=a4+T2.length:=⟨_,rfl⟩;rw [<-ha5] at hr6;subst hr6;have HV6:=Zh hv6;have HA5:=Zh ha5;have hd5:decide ((a5:Int)<0)=false:=by simp
        have hw3:IntKind.i64.wrap (x1+(i:Int)+1)=x1+((i+1:Nat):Int):=by rw [IntKind.wrap_i64];omega
        clear ha5 hv6 HD6;go_wp2_with fail
        refine ⟨⟨i+1,a5,v6,by omega,by first |rfl |(congr 1;omega),rfl,Zh ?_,rfl,?_,?_,zrW.trans Zi⟩,by simp [intOf]<;>omega⟩
        ·have h1:=HA5.out;have h2:=HA4.out;rw [zpq.out,List.length_append];omega
        ·have h1:=HV6.out;have h2:=HV'.out;have h3:=zpH.out;omega
        ·rw [zpq.out];refine (HSP.out T2).2 ?_;have h2:=HA4.out;rw [List.drop_drop,<-h2];exact hp6
       ·subst hr6 hv6;have HNO:Hid (¬(x1,x2)::rest<+:C.drop a):=Zh (fun h=>by
         have h1:=(HPE.out rest).1 h;obtain ⟨E,hE⟩:=zp5.out;rw [hE] at h1;have h2:=(List.prefix_append _ E).trans h1;rw [zpq.out] at h2;have h3:=(HSP.out T2).1 h2;have h4:=HA4.out;rw [List.drop_drop,<-h4] at h3;exact hn6 h3)
        clear HD6 hn6;go_wp2_with fail
        go_ret2
        exact ⟨_,_,rfl,.inr ⟨HNO.out,rfl,rfl⟩,(zqq.trans (zrW.trans Zi)).toStep⟩
      ·obtain rfl:i=J:=by omega
       have zqK:decide (x1+(i:Int)<=x2)=false:=by simp;omega
       have HV':=Zh hv';clear ha4 hv';go_wp2_with fail
       go_ret2
       refine ⟨_,_,rfl,.inl ⟨?_,?_,?_⟩,(zqq.trans (hxr.trans Zi)).toStep⟩
       ·rw [HPE.out,HRE.out];exact HPR.out
       ·have h1:=HA4.out;rw [HRE.out];omega
       ·have h1:=HV'.out;have h2:=HLV.out;rw [h2] at h1;exact h1
   ·have HNO:Hid (¬(lo,hi)::rest<+:C.drop a):=Zh (fun h=>by
     obtain ⟨h1,-⟩:=(HPC.out rest).1 h;injection h1 with h1 h2
     exact hxy ⟨h1.symm,h2.symm⟩)
    have hor:(x1==lo)=false∨((x1==lo)=true/\(x2==hi)=false):=by
     by_cases h1:x1=lo
     ·exact .inr ⟨by simp [h1],by simp;intro h2;exact hxy ⟨h1,h2⟩⟩
     ·exact .inl (by simp [h1])
    clear hxx HPC hxy;go_enter Tryz.func69,Tryz.ntmps69;go_upto_region 2 with (go_at_call 108;refine (HIV.out _ Zi).mono ?_;rintro e w1 ⟨rfl,hs1⟩)
    obtain ⟨bc,oc,rfl,f1,f2,f3⟩:=(HI.out.ext (Zi:Ext w w1)).at_ HXX.out;simp only at f1 f2;rcases hor with h1 |⟨h1,h2⟩
    ·go_wp2_with fail
     go_ret2
     exact ⟨_,_,rfl,.inr ⟨HNO.out,rfl,rfl⟩,Step.of _ _⟩
    ·go_wp2_with fail
     go_ret2
     exact ⟨_,_,rfl,.inr ⟨HNO.out,rfl,rfl⟩,Step.of _ _⟩
  ·have HNO:Hid (¬(lo,hi)::rest<+:C.drop a):=Zh (fun h=>by
    rw [List.drop_eq_nil_of_le (by omega)] at h;simp at h)
   have hdc:decide ((C.length:Int)<=(a:Int))=true:=by simp;omega
   go_enter Tryz.func69,Tryz.ntmps69;go_wp2_with (go_at_call 108;refine (HIV.out _ Zi).mono ?_;rintro e w1 ⟨rfl,hs1⟩)
   go_ret2
   exact ⟨_,_,rfl,.inr ⟨HNO.out,rfl,rfl⟩,Step.of _ _⟩
def zhY (w:World) (m:List (List Int)) (b:Int) (C:List (Int×Int)) (e:Ending) (w':World):Prop:=
 (C=Zd m b/\(zS m b (m.length-1) []).length<=8193/\∃B d L,e= .returned (.tuple #[.slice B (List.length L) d,.int .i64 0])/\Mat64 w' B L/\VecList m b false L/\Step w w')∨(C=Zd m b/\8193<(zS m b (m.length-1) []).length/\e= .returned (.tuple #[.slice none 0 0,.int .i64 7])/\Step w w')∨(C≠Zd m b/\e= .returned (.tuple #[.slice none 0 0,.int .i64 10])/\Step w w')
set_option maxRecDepth 20000 in
theorem zo0 {w0 w:World} {A B:Option Addr} {c d n k:Nat} {m:List (List Int)} {za:Int} (hM:Mat64 w0 A m) (hL:LLLed m) (h1:m.length=n) (hb:za<0) [hx:Ext w0 w]:
  Calls Tryz.prog 44 #[.slice A n c,.int .i64 za,.slice B k d] w (zz w (.tuple #[.slice none 0 0,.int .i64 1])):=by
 have HA:=Zh (fun W (e:Ext w0 W)=>zoz (w:=W) (c:=c) (most:=4611686018427387904) (budget:=0) hM hL h1 hb);clear hM hL h1;go_enter Tryz.func44,Tryz.ntmps44;go_wp2_with (go_at_call 61;refine (HA.out _ Zi).mono ?_;rintro e w1 ⟨rfl,hs1⟩)
 go_ret2
 exact ⟨rfl,Step.of _ _⟩
set_option maxRecDepth 20000 in
theorem zhZ {w0 w:World} {A B:Option Addr} {c d n:Nat} {m:List (List Int)} {za:Int} {C:List (Int×Int)} (hM:Mat64 w0 A m) (hL:LLLed m) (h1:m.length=n) (hb:0<=za) (hb1:za<1073741824) (hI:IvV w0 B C) (hC:C.length<=1099511627776) [hx:Ext w0 w]:
  Calls Tryz.prog 44 #[.slice A n c,.int .i64 za,.slice B C.length d] w (zhY w m za C):=by
 have hr:=ZF hL.red;have hn8:=hL.len8;have hn1:=hL.len1;have HA:=Zh (fun W (e:Ext w0 W)=>zhO (w:=W) (c:=c) (most:=4611686018427387904) (budget:=0) hM hL h1 hb (by omega) (by omega) (by omega));have HOF:Hid (∀W,Ext w0 W->Calls Tryz.prog 62 #[.slice A n c] W (za0 W m n)):=Zh (fun W e=>zbW hM hL h1);have zqp:=Qi hr hb;have ht:Zd m za=tE m za (n-1) []:=by unfold Zd;rw [h1]
 have HMT:Hid (∀(W:World) (SB DB:Option Addr) (sc dc:Nat),FrV W m SB DB->Ext w0 W->Calls Tryz.prog 69 #[.agg #[.int .i64 n,.slice SB n sc,.slice DB (n+1) dc],.int .i64 za,.slice none 0 0,.slice B C.length d,.int .i64 0,.int .i64 0] W (zad W (Zd m za) (zS m za (n-1) []).length C 0 0)):=Zh (fun W SB DB sc dc hF e=>by
  rw [ht];exact zoZ hL h1 hb hb1 hC (n-1) W SB DB none B sc dc 0 d 0 0 [] 0 (by omega) hF Ints.nil rfl (fun a ha=>by simp at ha) (by rw [h1] at zqp;exact zqp) (hI.ext e) (by omega) (by omega) (by omega))
 have HIT:Hid ((zS m za (n-1) []).length<=8193->∀W,Ext w0 W->Calls Tryz.prog 54 #[.slice A n c,.int .i64 za] W (zb4 W (z9 m (zS m za (n-1) [])))):=Zh (fun hq W e=>zoU hM hL h1 hb hb1 (by omega));obtain ⟨hvl,-⟩:=zhl hr hb;rw [h1] at hvl;have HVL:=Zh hvl;have HIL:Hid ((zS m za (n-1) []).length<=8193->(z9 m (zS m za (n-1) [])).length<=1000000):=Zh (fun hq=>by
  have :=zhT m (zS m za (n-1) []);omega)
 unfold zhY;rw [h1];generalize z9 m (zS m za (n-1) [])=its at*
 generalize hLN:(zS m za (n-1) []).length=ln at*
 generalize Zd m za=T at*
 have hpc:∀(D:List (Int×Int)),T<+:D->T.length=D.length->D=T:=fun D h1 h2=>(h1.eq_of_length h2).symm
 have HPC:=Zh hpc;unfold zad at HMT;unfold zb4 at HIT;clear hM hL h1 hr zqp ht hvl hLN hpc hI hn8;simp only [List.drop_zero] at HMT;go_enter Tryz.func44,Tryz.ntmps44;go_upto_region 5 with (first
  |(go_at_call 61;refine (HA.out _ Zi).mono ?_;rintro e w1 ⟨rfl,hs1⟩)
  |(go_at_call 62;refine (HOF.out _ Zi).mono ?_;rintro e w2 ⟨SB,sc,DB,dc,rfl,hF,-,-,-,-,hs2⟩)
  |(go_at_call 69;refine (HMT.out _ _ _ _ _ hF Zi).mono ?_;rintro e w3 ⟨r,v,rfl,hd,hs3⟩;have HD:=Zh hd;clear hd hF))
 have hx3:Ext w w3:=Zi;rcases HD.out with ⟨hp,hr,hv⟩ |⟨hp,hr,hv⟩
 ·rw [Nat.zero_add] at hr;rw [Int.zero_add] at hv;subst hr;by_cases hl:T.length=C.length
  ·have hCT:=HPC.out C hp hl;have hle:((T.length:Int) !=(C.length:Int))=false:=by simp [hl]
   by_cases h8:ln<=8193
   ·have hve:v=(ln:Int):=by omega
    subst hve;have hd1:decide (8193<(ln:Int))=false:=by simp;omega
    have HI2:=Zh (HIT.out h8);have HI3:=Zh (HIL.out h8);have HCT:=Zh hCT;clear HIT HIL HMT HOF HA HD hp hCT hl hv;go_wp2_with (first
     |(go_at_call 54;refine (HI2.out _ Zi).mono ?_;rintro e w4 ⟨A2,c2,vs2,rfl,hO2,hV2,hs4⟩)
     |(go_at_call 53;refine (zoV hO2.arr hV2 HI3.out).mono ?_;unfold zcK;rintro e w5 ⟨A3,c3,rfl,hM3,h31,h32,hs5⟩))
    go_ret2
    exact .inl ⟨HCT.out,h8,A3,c3,its.map Prod.snd,by rw [List.length_map];rfl,hM3.ext Zi,HVL.out,Step.of _ _⟩
   ·have hd1:decide (8193<v)=true:=by simp;omega
    have HCT:=Zh hCT;clear HIT HIL HMT HOF HA HD hp hCT hl hv;go_wp2_with fail
    go_ret2
    exact .inr (.inl ⟨HCT.out,by omega,rfl,Step.of _ _⟩)
  ·have hle:((T.length:Int) !=(C.length:Int))=true:=by simp;omega
   have HNE:Hid (C≠T):=Zh (fun h=>hl (by rw [h]));clear HIT HIL HMT HOF HA HD hp hl hv;go_wp2_with fail
   go_ret2
   exact .inr (.inr ⟨HNE.out,rfl,Step.of _ _⟩)
 ·subst hr;have hle:((-1:Int) !=(C.length:Int))=true:=by simp
  have HNE:Hid (C≠T):=Zh (fun h=>hp (by rw [h];exact List.prefix_rfl));clear HIT HIL HMT HOF HA HD hp hv;go_wp2_with fail
  go_ret2
  exact .inr (.inr ⟨HNE.out,rfl,Step.of _ _⟩)
theorem zh0 {w0 w:World} {A B:Option Addr} {c d b:Nat} {m:List (List Int)} {C:List (Int×Int)} (h:Mat64 w0 A m) (hc:m.length<=c) (hc2:c<=9223372036854775807) (hr:Zp m=true) (hb1:(b:Int)<1073741824) (hC:IvV w0 B C) (zp9:C.length<=1099511627776) [hx:Ext w0 w]:
  Calls Tryz.prog 42 #[.slice A m.length c,.int .i64 b,.slice B C.length d] w fun e w'=>if C=Zd m b then (if 4096<(qv m b false).length then zz w (.tuple #[.slice none 0 0,.int .i64 7]) e w' else zn8 w m b e w') else zz w (.tuple #[.slice none 0 0,.int .i64 10]) e w':=by
 have hR:=ZF hr;have hl:=ZR hR.small;have hb0:(0:Int)<=b:=by omega
 have zsc:=znC hR hb0 hb1 C;have htl:=znH hR hb0;have htc:tC m b (m.length-1) [] []=(tV m b (m.length-1) []).take 4097:=by
  rw [znE _ _ _ _ _ (by simp),List.nil_append]
 rw [htc] at zsc;have hv:∀l,QT m b C=some l->l.length<=4096->(∀x∈l,VecOK m x)/\(l.map zJ).Nodup:=fun l hl h4=>by
  obtain ⟨-,rfl⟩:=(zsc l).1 hl;rw [List.length_take] at h4;rw [List.take_of_length_le (by omega)];refine ⟨fun x hx=>?_,by rw [zhf hR hb0];exact (zhe _ _ _).1⟩;obtain ⟨q1,q2,q3⟩:=(zbP hR hb0 x).1 hx;have q4:=zlW (zf7 hR hb0 hb1 x q1 q3);refine ⟨by simp [jN,q1,q4],?_,?_⟩
  ·have :=zf6 hR x q1;simp only [Ji,decide_eq_true_eq];omega
  ·simp only [jf,q4,Bool.true_and,Bool.not_eq_true',decide_eq_false_iff_not];omega
 refine (zfC (w:=w) (c:=c) (d:=d) h hc hc2 (zn9 hr hb0 hb1) hC zp9 hv).mono ?_;intro e w' hp;by_cases hCt:C=Zd m b
 ·rw [if_pos hCt];rw [(zsc _).2 ⟨hCt,rfl⟩] at hp;simp only [List.length_take] at hp;by_cases h4:4096<(qv m b false).length
  ·rw [if_pos h4];rw [if_pos (by omega)] at hp;exact hp
  ·rw [if_neg h4];rw [if_neg (by omega)] at hp;rw [List.take_of_length_le (by omega)] at hp;obtain ⟨X,d2,L,he,hM,k1,k2,p1,p2,hs⟩:=hp;have hlL:=p1.length_eq;rw [List.length_map] at hlL;exact ⟨X,d2,L,he,hM,k1,k2,znG hR hb0 p1 p2,by omega,hs⟩
 ·rw [if_neg hCt];have :QT m b C=none:=by
   cases hT:QT m b C with
   |none=>rfl
   |some l=>exact absurd ((zsc l).1 hT).1 hCt
  rw [this] at hp;exact hp
theorem zo1 {m:List (List Int)} (h:Zp m=true) {b:Nat} (h4:m.length<=4) (hb:b+2*m.length<=13):Z7 m b<=8000:=by
 have hl:=ZR (ZF h).small;have hc:=(zbC h (b:=b) (by omega)).2;have key:∀n,n<4->∀b,b<12->b+2*(n+1)<=13->Qj b n<=8000/\zo b<=3000:=by decide+kernel
 have :=key (m.length-1) (by omega) b (by omega) (by omega);rcases hc with h |h<;>omega
theorem zo2 {w0 w:World} {A B:Option Addr} {c d k:Nat} {m:List (List Int)} {za:Int} (h:Mat64 w0 A m) (hc:m.length<=c) (hc2:c<=9223372036854775807) (hr:Zp m=true) (hb:za<0) [hx:Ext w0 w]:
  Calls Tryz.prog 42 #[.slice A m.length c,.int .i64 za,.slice B k d] w (zz w (.tuple #[.slice none 0 0,.int .i64 1])):=by
 have hl:=ZR (ZF hr).small;have zqi:=fun W (hh:Ext w0 W)=>zas (w:=W) h (by omega) hc hc2
 rw [hr] at zqi;have zpi:=Zh zqi;have db0:decide (za<0)=true:=by simpa using hb
 clear zqi;go_enter Tryz.func42,Tryz.ntmps42;go_wp2_with (go_at_call 66;refine (zpi.out _ Zi).mono ?_;rintro e w1 ⟨rfl,hs1⟩)
 go_ret2
 exact ⟨rfl,Step.of _ _⟩
def za4 (w:World) (L:List (List Int)) (er:Int) (e:Ending) (w':World):Prop:=∃X q,e= .returned (.tuple #[.slice X (List.length L) q,.int .i64 er])/\Mat64 w' X L/\Step w w'
theorem zo3 {W:World} {A B:Option Addr} {m:List (List Int)} {n c d k:Nat} {C:List (Int×Int)} {bd:Int} (hM:Mat64 W A m) (hL:LLLed m) (h1:m.length=n) (h4:n<=4) (hc:n<=c) (hc2:c<=9223372036854775807) (hbd:bd=-1∨(0<=bd/\bd+2*n<=13)) (hI:IvV W B C) (hk:C.length=k) (hk2:k<=20000):
  ∃(L:List (List Int)) (er:Int),L.length<=8000/\(∀r∈L,r.length=n)/\∀W',Ext W W'->Calls Tryz.prog 42 #[.slice A n c,.int .i64 bd,.slice B k d] W' (za4 W' L er)/\Calls Tryz.prog 44 #[.slice A n c,.int .i64 bd,.slice B k d] W' (za4 W' L er):=by
 have zqi:=hL.red;have hR:=ZF zqi;have hn1:=hL.len1;subst hk h1;rcases hbd with rfl |⟨hb0,hb1⟩
 ·refine ⟨[],1,by simp,fun r hr=>by simp at hr,fun W' e=>⟨?_,?_⟩⟩
  ·refine (zo2 (w:=W') hM hc hc2 zqi (by omega)).mono ?_;rintro e' w' ⟨rfl,hs⟩;exact ⟨none,0,rfl,zb6 _,hs⟩
  ·refine (zo0 (w:=W') hM hL rfl (by omega)).mono ?_;rintro e' w' ⟨rfl,hs⟩;exact ⟨none,0,rfl,zb6 _,hs⟩
 ·obtain ⟨b,rfl⟩:∃b:Nat,bd=b:=⟨bd.toNat,by omega⟩;have zu9:=zo1 zqi (b:=b) h4 (by omega);have hst:=(zbC zqi (b:=b) (by omega)).1;have zqD:=hst.last_le (by omega);have zv6:=hst.zc;have hlv:=zoP zqi (b:=b) (by omega);have hit:=zhl hR hb0;obtain ⟨L,hLL⟩:∃L,L=(z9 m (zS m b (m.length-1) [])).map Prod.snd:=⟨_,rfl⟩;have hv:=hit.1;rw [<-hLL] at hv;have zp9:=znS hR hb0 hv;by_cases hC:C=Zd m b
  ·refine ⟨L,0,by omega,hv.zb,fun W' e=>⟨?_,?_⟩⟩
   ·refine (zh0 (w:=W') (c:=c) (d:=d) (b:=b) hM hc hc2 zqi (by omega) hI (by omega)).mono ?_;intro e' w' hp;simp only [if_pos hC] at hp;rw [if_neg (by omega)] at hp;obtain ⟨X,q,L',rfl,hX,-,-,hV,-,hs⟩:=hp;obtain rfl:=VecList.unique hV hv;exact ⟨X,q,rfl,hX,hs⟩
   ·refine (zhZ (w:=W') (c:=c) (d:=d) hM hL rfl hb0 (by omega) hI (by omega)).mono ?_;rintro e' w' (⟨-,-,X,q,L',rfl,hX,hV,hs⟩ |⟨-,h8,-⟩ |⟨hne,-⟩)
    ·obtain rfl:=VecList.unique hV hv;exact ⟨X,q,rfl,hX,hs⟩
    ·omega
    ·exact absurd hC hne
  ·refine ⟨[],10,by simp,fun r hr=>by simp at hr,fun W' e=>⟨?_,?_⟩⟩
   ·refine (zh0 (w:=W') (c:=c) (d:=d) (b:=b) hM hc hc2 zqi (by omega) hI (by omega)).mono ?_;intro e' w' hp;simp only [if_neg hC] at hp;obtain ⟨rfl,hs⟩:=hp;exact ⟨none,0,rfl,zb6 _,hs⟩
   ·refine (zhZ (w:=W') (c:=c) (d:=d) hM hL rfl hb0 (by omega) hI (by omega)).mono ?_;rintro e' w' (⟨he,-⟩ |⟨he,-⟩ |⟨-,rfl,hs⟩)
    ·exact absurd he hC
    ·exact absurd he hC
    ·exact ⟨none,0,rfl,zb6 _,hs⟩
theorem zae (C:List (Int×Int)) (i:Nat) (hi:i<=C.length):(zF C).take (i*2)=zF (C.take i)/\(zF C).drop (i*2)=zF (C.drop i):=by
 have h1:(zF (C.take i)).length=i*2:=by rw [JB,List.length_take];omega
 have h2:zF C=zF (C.take i)++zF (C.drop i):=by rw [<-za3,List.take_append_drop]
 rw [h2];exact ⟨by rw [<-h1,List.take_left],by rw [<-h1,List.drop_left]⟩
theorem zaf (C:List (Int×Int)):∀u∈zF C,u.oneCell'=true:=by
 intro u hu;obtain ⟨p,-,hp⟩:=List.mem_flatMap.1 hu;rcases List.mem_cons.1 hp with rfl |hp
 ·rfl
 ·obtain rfl:=List.mem_singleton.1 hp;rfl
theorem zd1 {x:Int} (k:Int) (h0:-128<=x) (h1:x<128) (hk:k=2∨k=3):-2<=x.tmod k/\x.tmod k<=2/\(k=2->-1<=x.tmod k/\x.tmod k<=1):=by
 rcases hk with rfl |rfl<;>(rcases Int.le_total 0 x with h |h
                            ·rw [Int.tmod_eq_emod_of_nonneg h];omega
                            ·have h2:x=-(-x):=by omega
                             rw [h2,Int.neg_tmod,Int.tmod_eq_emod_of_nonneg (by omega)];omega)
theorem j0 {L:List (List Int)} {n:Nat} (hL8:L.length<=8000) (hLr:∀r∈L,r.length=n) (hn4:n<=4):Hid (∀(W1 W2 W:World) X Y (c d:Nat),Mat64 W1 X L->Mat64 W2 Y L->Ext W1 W->Ext W2 W->Calls Tryz.prog 25 #[.slice X L.length c,.slice Y L.length d] W (jA W (.bool true))):=Zh (fun W1 W2 W X Y c d hX hY e1 e2=>by
 have h:=zfn (w:=W) (c:=c) (d:=d) (hX.ext e1) (hY.ext e2) (by omega) (by omega) (fun r hr=>by rw [hLr r hr];omega) (fun r hr=>by rw [hLr r hr];omega);rwa [decide_eq_true rfl] at h)
set_option maxRecDepth 20000 in
theorem zo4 {w:World} {dim kind za at_ what lo hi:Int} {NA:Option Addr} {l:List Int} {nc:Nat} {v3:Value} {te:TypeId} (hN:Ints w NA te .i8 l) (h8:I8 l) (hl:l.length<=9223372036854775807) (hd0:0<=dim) (hd1:dim<256) (hk0:0<=kind) (hk1:kind<256) (hb0:0<=za) (hb1:za<256) (ha0:0<=at_) (ha1:at_<65536) (hw0:0<=what) (_hw1:what<256) (hlo:-128<=lo) (zsq:lo<128) (hhi:-128<=hi) (ztc:hi<128):
  Calls Tryz.prog 14 #[.agg #[.int .u8 dim,.int .u8 kind,.slice NA l.length nc,v3],.int .u8 za,.int .u16 at_,.int .u8 what,.int .i8 lo,.int .i8 hi] w (zz w (.bool true)):=by
 have HG:Hid (∀W,Ext w W->Calls Tryz.prog 40 #[.agg #[.int .u8 dim,.int .u8 kind,.slice NA l.length nc,v3],.int .u8 za] W (zdM W (1+(dim%4).toNat) za)):=Zh (fun W e=>zoa (hN.ext e) h8 hl hd0 hd1 hk0 hk1 hb0 hb1);have hn1:1<=1+(dim%4).toNat:=by omega
 have hn4:1+(dim%4).toNat<=4:=by omega
 clear hN h8;generalize 1+(dim%4).toNat=n at*
 have e6:=Int.emod_nonneg za (show 13-2*(n:Int)≠0 by omega);have e7:=Int.emod_lt_of_pos za (show 0<13-2*(n:Int) by omega);unfold zdM at HG;obtain ⟨b,hb⟩:∃b:Nat,za%(13-2*(n:Int))=b:=⟨(za%(13-2*(n:Int))).toNat,by omega⟩;rw [hb] at HG e6 e7;have HE:Hid (∀(m:List (List Int)) (W0 W:World) A c,LLLed m->m.length=n->Mat64 W0 A m->Ext W0 W->Calls Tryz.prog 41 #[.slice A n c,.int .i64 b,.int .i64 20000] W (fun e w'=>∃B d,e= .returned (.tuple #[.slice B (Zd m b).length d,.int .i64 0])/\Own w' W0.heap.size 64 2 B (Zd m b).length d (zF (Zd m b))/\Step W w')):=Zh (fun m W0 W A c hL hmn hM e=>by
  have zu9:=zhq hL.red (b:=b) (by omega) (by omega);refine (zoD (w:=W) (c:=c) hM hL hmn (by omega) (by omega) (by omega) (by omega)).mono ?_;rintro e' w' (⟨-,B,d,rfl,hO,hs⟩ |⟨zqG,-⟩)
  ·exact ⟨B,d,rfl,hO.lower e.size,hs⟩
  ·exact absurd zqG (by omega))
 have hwa:IntKind.i64.wrap at_=at_:=IntWalk.i64_in _ (by omega);have hwt:what.tmod 7=what%7:=Int.tmod_eq_emod_of_nonneg hw0;obtain ⟨kk,hkk⟩:∃kk,what%7=kk:=⟨_,rfl⟩;have zv7:0<=kk:=by omega
 have zs2:kk<7:=by omega
 have hkw:IntKind.u8.wrap kk=kk:=by rw [IntKind.wrap_u8];omega
 rw [hkk] at hwt;obtain ⟨lo3,hl3⟩:∃z,lo.tmod 3=z:=⟨_,rfl⟩;obtain ⟨hi3,hh3⟩:∃z,hi.tmod 3=z:=⟨_,rfl⟩;obtain ⟨lo2,hl2⟩:∃z,lo.tmod 2=z:=⟨_,rfl⟩;have b1:=zd1 (x:=lo) 3 hlo zsq (.inr rfl);have b2:=zd1 (x:=hi) 3 hhi ztc (.inr rfl);have b3:=zd1 (x:=lo) 2 hlo zsq (.inl rfl);rw [hl3] at b1;rw [hh3] at b2;rw [hl2] at b3;obtain ⟨b11,b12,-⟩:=b1;obtain ⟨b21,b22,-⟩:=b2;obtain ⟨b31,b32⟩:=b3.2.2 rfl;have wl3:IntKind.i8.wrap lo3=lo3:=IntWalk.i8_in _ (by omega)
 have wh3:IntKind.i8.wrap hi3=hi3:=IntWalk.i8_in _ (by omega);have wl2:IntKind.i8.wrap lo2=lo2:=IntWalk.i8_in _ (by omega);have ul3:IntKind.i64.wrap lo3=lo3:=IntWalk.i64_in _ (by omega);have uh3:IntKind.i64.wrap hi3=hi3:=IntWalk.i64_in _ (by omega);have ul2:IntKind.i64.wrap lo2=lo2:=IntWalk.i64_in _ (by omega);have ulo:IntKind.i64.wrap lo=lo:=IntWalk.i64_in _ (by omega);have uhi:IntKind.i64.wrap hi=hi:=IntWalk.i64_in _ (by omega)
 clear b3 hw0 _hw1 hkk;clear hb;go_enter Tryz.func14,Tryz.ntmps14;go_upto_region 3 with (first
  |(go_at_call 40;refine (HG.out _ Zi).mono ?_;rintro e w1 ⟨g,m,A1,c1,rfl,-,hLL,zp9,-,hM1,hc1,hc2,hs1⟩;have HM:=Zh hM1;have HR:=Zh hLL;clear hM1 hLL)
  |(go_at_call 41;refine (HE.out _ _ _ _ _ HR.out zp9 HM.out Zi).mono ?_;rintro e w2 ⟨B2,d2,rfl,hO2,hs2⟩))
 have htf:=zoc HR.out.red (b:=b) (by omega) (by omega);have htn:=zob m b;have htb:=znK (ZF HR.out.red) (b:=(b:Int)) (by omega) (by omega);obtain ⟨T,hT⟩:∃T,T=Zd m b:=⟨_,rfl⟩;rw [<-hT] at htf htn htb hO2 |-
 obtain ⟨tl,htl⟩:∃tl,T.length=tl:=⟨_,rfl⟩;rw [htl] at htf htn hO2 |-
 have zqm:=hO2.cap;obtain ⟨g,rfl,hg1,hg2,hIB⟩:=hO2.ivB htl (by omega);have hng:New g w1:=⟨hg1⟩;obtain ⟨i,hi1⟩:∃i:Nat,at_%(tl:Int)=i:=⟨(at_%(tl:Int)).toNat,by have :=Int.emod_nonneg at_ (show (tl:Int)≠0 by omega);omega⟩;have hil:i<tl:=by have :=Int.emod_lt_of_pos at_ (show (0:Int)<(tl:Int) by omega);omega
 have htm:at_.tmod (tl:Int)=(i:Int):=by rw [Int.tmod_eq_emod_of_nonneg ha0,hi1]
 have htz:((tl:Int)==0)=false:=by simp;omega
 obtain ⟨⟨x1,x2⟩,hp⟩:∃p,T[i]? =some p:=⟨_,Ze (by omega)⟩;obtain ⟨⟨y1,y2⟩,hp0⟩:∃p,T[0]? =some p:=⟨_,Ze (by omega)⟩;obtain ⟨c0,c1',f0,f1⟩:=hIB.cells hp;obtain ⟨d0,d1,g0,g1⟩:=hIB.cells hp0;have hxb:=htb _ (Zm hp);have hyb:=htb _ (Zm hp0);simp only at c0 c1' hxb hyb;simp only [Nat.zero_mul,Nat.zero_add] at d0 d1 g0 g1;have HIB:=Zh hIB;have HO2:=Zh hO2;have HTB:=Zh htb;have HP:=Zh hp;have HP0:=Zh hp0;have HTL:=Zh htl
 have zqq:Ext w w1:=Zi;have zqI:Ext w1 w2:=Zi;have HVB:Hid (∀(W:World) (B:Option Addr) (C:List (Int×Int)) (k d:Nat) (bd:Int),IvV W B C->C.length=k->k<=20000->(bd=-1∨(0<=bd/\bd+2*n<=13))->Ext w1 W->∃(L:List (List Int)) (er:Int),L.length<=8000/\(∀r∈L,r.length=n)/\∀W',Ext W W'->Calls Tryz.prog 42 #[.slice A1 n c1,.int .i64 bd,.slice B k d] W' (za4 W' L er)/\Calls Tryz.prog 44 #[.slice A1 n c1,.int .i64 bd,.slice B k d] W' (za4 W' L er)):=Zh (fun W B C k d bd hI hk hk2 hbd e=>zo3 (HM.out.ext e) HR.out zp9 hn4 hc1 hc2 hbd hI hk hk2)
 unfold za4 at HVB;clear hIB hO2 hT htb HE HG HM HR hp hp0 htl;go_upto_region 4 with fail
 rcases (by omega:kk=0∨kk=1∨kk=2∨kk=3∨kk=4∨kk=5∨kk=6) with rfl |rfl |rfl |rfl |rfl |rfl |rfl
 ·have hws:IntKind.i64.wrap (x1+lo3)=x1+lo3:=IntWalk.i64_in _ (by omega);obtain ⟨w3,hw3⟩:∃w3,w3=w2.setCell ⟨g,i*2,none⟩ (.int .i64 (x1+lo3)):=⟨_,rfl⟩;have hx3:Ext w1 w3:=by rw [hw3];exact Zi
  have hI3:IvBk w3 g (T.set i (x1+lo3,x2)):=by rw [hw3];exact HIB.out.set1 HP.out _
  obtain ⟨L,er,hL8,hLr,zqr⟩:=HVB.out w3 (some ⟨g,0,none⟩) _ tl d2 (b:Int) (hI3.toV (zb5 (fun q hq=>by have :=HTB.out q hq;omega) ⟨by omega,by omega,by omega,by omega⟩)) (by rw [List.length_set];exact HTL.out) (by omega) (.inr ⟨by omega,by omega⟩) hx3;have zqh:Ext w w3:=zqq.trans hx3;clear hI3;go_upto_region 18 with fail
  rw [<-hw3];clear hw3 c0 c1' f0 f1 d0 d1 g0 g1;have HVR:=Zh zqr;have HSM:=j0 hL8 hLr hn4;have hee:(er==er)=true:=by simp
  clear zqr hLr HVB;go_upto_region 20 with (first
   |(go_at_call 42;refine (HVR.out _ Zi).1.mono ?_;rintro e w14 ⟨X4,q4,rfl,hM4,zq4⟩;have HM4:=Zh hM4;clear hM4)
   |(go_at_call 44;refine (HVR.out _ Zi).2.mono ?_;rintro e w15 ⟨X5,q5,rfl,hM5,zq5⟩;have HM5:=Zh hM5;clear hM5))
  have zrl:Ext w w15:=zqh.trans Zi;clear HVR;go_wp2_with (first
   |(go_at_call 25;refine (HSM.out _ _ _ _ _ _ _ HM4.out HM5.out Zi Zi).mono ?_;rintro e w17 ⟨rfl,nq,rfl⟩)
   |(go_at_call 43;refine jY.mono ?_;rintro e w18 ⟨rfl,zrm⟩))
  go_ret;exact ⟨rfl,Step.of _ _⟩
 ·have hws:IntKind.i64.wrap (x2+hi3)=x2+hi3:=IntWalk.i64_in _ (by omega);obtain ⟨w3,hw3⟩:∃w3,w3=w2.setCell ⟨g,i*2+1,none⟩ (.int .i64 (x2+hi3)):=⟨_,rfl⟩;have hx3:Ext w1 w3:=by rw [hw3];exact Zi
  have hI3:IvBk w3 g (T.set i (x1,x2+hi3)):=by rw [hw3];exact HIB.out.set2 HP.out _
  obtain ⟨L,er,hL8,hLr,zqr⟩:=HVB.out w3 (some ⟨g,0,none⟩) _ tl d2 (b:Int) (hI3.toV (zb5 (fun q hq=>by have :=HTB.out q hq;omega) ⟨by omega,by omega,by omega,by omega⟩)) (by rw [List.length_set];exact HTL.out) (by omega) (.inr ⟨by omega,by omega⟩) hx3;have zqh:Ext w w3:=zqq.trans hx3;clear hI3;go_upto_region 18 with fail
  rw [<-hw3];clear hw3 c0 c1' f0 f1 d0 d1 g0 g1;have HVR:=Zh zqr;have HSM:=j0 hL8 hLr hn4;have hee:(er==er)=true:=by simp
  clear zqr hLr HVB;go_upto_region 20 with (first
   |(go_at_call 42;refine (HVR.out _ Zi).1.mono ?_;rintro e w14 ⟨X4,q4,rfl,hM4,zq4⟩;have HM4:=Zh hM4;clear hM4)
   |(go_at_call 44;refine (HVR.out _ Zi).2.mono ?_;rintro e w15 ⟨X5,q5,rfl,hM5,zq5⟩;have HM5:=Zh hM5;clear hM5))
  have zrl:Ext w w15:=zqh.trans Zi;clear HVR;go_wp2_with (first
   |(go_at_call 25;refine (HSM.out _ _ _ _ _ _ _ HM4.out HM5.out Zi Zi).mono ?_;rintro e w17 ⟨rfl,nq,rfl⟩)
   |(go_at_call 43;refine jY.mono ?_;rintro e w18 ⟨rfl,zrm⟩))
  go_ret;exact ⟨rfl,Step.of _ _⟩
 ·have hwi:IntKind.i64.wrap ((i:Int)+1)=((i+1:Nat):Int):=by rw [IntKind.wrap_i64];omega
  have zru:(i:Int)<=(d2:Int):=by omega
  have zv8:(i:Int)<=(i:Int)+1:=by omega
  have hrg:0<=(i:Int)+1/\(i:Int)+1<=(tl:Int):=by omega
  by_cases hcc:d2=i+1
  ·subst hcc;have HOE:Hid (∀W,Ext (w2.alloc (.cells #[] 64)) W->Own W w2.heap.size 64 2 (some ⟨w2.heap.size,0,none⟩) 0 0 []):=Zh (fun W e=>(Own.new w2 64 2 0 #[] rfl (by omega)).ext e);have har:=HO2.out.arr;have htk:=zae T i (by rw [HTL.out];omega);have hdp:=zae T (i+1) (by rw [HTL.out];omega);have HSA:Hid (∀W,Ext w2 W->Arr W (some ⟨g,0,none⟩) 64 (zF (T.take i))):=Zh (fun W e=>by rw [<-htk.1];exact (har.take _).ext e)
   have HSB:Hid (∀W,Ext w2 W->Arr W (some ⟨g,0,none⟩) 64 (zF (T.drop (i+1)))):=Zh (fun W e=>by
    rw [List.drop_eq_nil_of_le (by rw [HTL.out];omega)];exact Arr.nil)
   have HLA:Hid ((zF (T.take i)).length=i*2/\(zF (T.drop (i+1))).length=(tl-(i+1))*2):=Zh ⟨by rw [JB,List.length_take,HTL.out];omega,by (rw [JB,List.length_drop,HTL.out])<;>omega⟩;clear har htk hdp c0 c1' f0 f1 d0 d1 g0 g1;go_upto_region 11 with fail
   go_region_law (first
    |((refine QM _ rfl (.tmp 77) (.tmp 80) 58 rfl (w2.heap.size) 64 (.agg #[.int .i64 0,.int .i64 0]) 2 16 Tryz.underlying58 jB rfl (by decide) (by decide) (some ⟨w2.heap.size,0,none⟩) 0 0 [] (by first |(simp [Act.eval];done) |(simp [Act.eval];omega) |(simp [Act.eval,Act.put];done)) (by exact HOE.out _ Zi) (some ⟨g,0,none⟩) i (i+1) (zF (T.take i)) (by first |(simp [Act.eval];done) |(simp [Act.eval];omega) |(simp [Act.eval,Act.put];done)) (by exact HSA.out _ Zi) HLA.out.1 (zaf _) (by omega) (by simp<;>omega) ?_);intro A4 c4 w4 zqd hg4;have hx4:Ext w2 w4:=hg4.ext Zi (by omega);have HSZ:Hid (w2.heap.size<=w4.heap.size):=Zh hx4.size;have HOW:Hid (Own w4 (w2.heap.size) 64 2 A4 i c4 (zF (T.take i))):=Zh (by simpa using zqd);clear zqd hg4)
    |((refine QM _ rfl (.tmp 81) (.tmp 85) 58 rfl (w2.heap.size) 64 (.agg #[.int .i64 0,.int .i64 0]) 2 16 Tryz.underlying58 jB rfl (by decide) (by decide) A4 i c4 (zF (T.take i)) (by first |(simp [Act.eval];done) |(simp [Act.eval];omega) |(simp [Act.eval,Act.put];done)) (by first |exact HOW.out |exact HOW.out.ext Zi) (some ⟨g,0,none⟩) (tl-(i+1)) (i+1-(i+1)) (zF (T.drop (i+1))) (by first |(simp [Act.eval];done) |(simp [Act.eval];omega) |(simp [Act.eval,Act.put];done)) (by exact HSB.out _ (hx4.trans Zi)) HLA.out.2 (zaf _) (by omega) (by have :=HSZ.out;first |omega |(simp;omega)) ?_);intro A5 c5 w5 zqT hg5;have hx5:Ext w2 w5:=hg5.ext (hx4.trans Zi) Zr;have HO5:=Zh zqT;clear zqT hg5))
   rename_i K hK
   go_simp
   refine hK _ _ ?_;clear hK;have hx3:Ext w1 w5:=zqI.trans hx5;have hI3:IvV w5 A5 (T.take i++T.drop (i+1)):=⟨⟨64,by have h:=HO5.out.arr;rw [<-za3] at h;exact h⟩,fun q hq=>by
    rcases List.mem_append.1 hq with hq |hq
    ·have :=HTB.out q (List.mem_of_mem_take hq);omega
    ·have :=HTB.out q (List.mem_of_mem_drop hq);omega⟩
   obtain ⟨L,er,hL8,hLr,zqr⟩:=HVB.out w5 A5 _ i c5 (b:Int) hI3 (by rw [List.length_append,List.length_take,List.length_drop,HTL.out];omega) (by omega) (.inr ⟨by omega,by omega⟩) hx3;have zqh:Ext w w5:=zqq.trans hx3;clear hI3 hx4 hx5 zqI zqq HOE HSA HSB HLA HSZ HOW HO5 hx3 HTB HP HP0 HTL HIB HO2;go_upto_region 18 with fail
   have HVR:=Zh zqr;have HSM:=j0 hL8 hLr hn4;have hee:(er==er)=true:=by simp
   clear zqr hLr HVB;go_upto_region 20 with (first
    |(go_at_call 42;refine (HVR.out _ Zi).1.mono ?_;rintro e w14 ⟨X4,q4,rfl,hM4,zq4⟩;have HM4:=Zh hM4;clear hM4)
    |(go_at_call 44;refine (HVR.out _ Zi).2.mono ?_;rintro e w15 ⟨X5,q5,rfl,hM5,zq5⟩;have HM5:=Zh hM5;clear hM5))
   have zrl:Ext w w15:=zqh.trans Zi;clear HVR;go_wp2_with (first
    |(go_at_call 25;refine (HSM.out _ _ _ _ _ _ _ HM4.out HM5.out Zi Zi).mono ?_;rintro e w17 ⟨rfl,nq,rfl⟩)
    |(go_at_call 43;refine jY.mono ?_;rintro e w18 ⟨rfl,zrm⟩))
   go_ret;exact ⟨rfl,Step.of _ _⟩
  ·have HOE:Hid (∀W,Ext (w2.alloc (.cells #[] 64)) W->Own W w2.heap.size 64 2 (some ⟨w2.heap.size,0,none⟩) 0 0 []):=Zh (fun W e=>(Own.new w2 64 2 0 #[] rfl (by omega)).ext e);have har:=HO2.out.arr;have htk:=zae T i (by rw [HTL.out];omega);have hdp:=zae T (i+1) (by rw [HTL.out];omega);have HSA:Hid (∀W,Ext w2 W->Arr W (some ⟨g,0,none⟩) 64 (zF (T.take i))):=Zh (fun W e=>by rw [<-htk.1];exact (har.take _).ext e)
   have HSB:Hid (∀W,Ext w2 W->Arr W (some ⟨g,(i+1)*2,none⟩) 64 (zF (T.drop (i+1)))):=Zh (fun W e=>by
    rw [<-hdp.2];have h:=(har.drop ((i+1)*2)).ext e;rwa [Nat.zero_add] at h)
   have HLA:Hid ((zF (T.take i)).length=i*2/\(zF (T.drop (i+1))).length=(tl-(i+1))*2):=Zh ⟨by rw [JB,List.length_take,HTL.out];omega,by (rw [JB,List.length_drop,HTL.out])<;>omega⟩;clear har htk hdp c0 c1' f0 f1 d0 d1 g0 g1;go_upto_region 11 with fail
   go_region_law (first
    |((refine QM _ rfl (.tmp 77) (.tmp 80) 58 rfl (w2.heap.size) 64 (.agg #[.int .i64 0,.int .i64 0]) 2 16 Tryz.underlying58 jB rfl (by decide) (by decide) (some ⟨w2.heap.size,0,none⟩) 0 0 [] (by first |(simp [Act.eval];done) |(simp [Act.eval];omega) |(simp [Act.eval,Act.put];done)) (by exact HOE.out _ Zi) (some ⟨g,0,none⟩) i d2 (zF (T.take i)) (by first |(simp [Act.eval];done) |(simp [Act.eval];omega) |(simp [Act.eval,Act.put];done)) (by exact HSA.out _ Zi) HLA.out.1 (zaf _) (by omega) (by simp<;>omega) ?_);intro A4 c4 w4 zqd hg4;have hx4:Ext w2 w4:=hg4.ext Zi (by omega);have HSZ:Hid (w2.heap.size<=w4.heap.size):=Zh hx4.size;have HOW:Hid (Own w4 (w2.heap.size) 64 2 A4 i c4 (zF (T.take i))):=Zh (by simpa using zqd);clear zqd hg4)
    |((refine QM _ rfl (.tmp 81) (.tmp 85) 58 rfl (w2.heap.size) 64 (.agg #[.int .i64 0,.int .i64 0]) 2 16 Tryz.underlying58 jB rfl (by decide) (by decide) A4 i c4 (zF (T.take i)) (by first |(simp [Act.eval];done) |(simp [Act.eval];omega) |(simp [Act.eval,Act.put];done)) (by first |exact HOW.out |exact HOW.out.ext Zi) (some ⟨g,(i+1)*2,none⟩) (tl-(i+1)) (d2-(i+1)) (zF (T.drop (i+1))) (by first |(simp [Act.eval];done) |(simp [Act.eval];omega) |(simp [Act.eval,Act.put];done)) (by exact HSB.out _ (hx4.trans Zi)) HLA.out.2 (zaf _) (by omega) (by have :=HSZ.out;first |omega |(simp;omega)) ?_);intro A5 c5 w5 zqT hg5;have hx5:Ext w2 w5:=hg5.ext (hx4.trans Zi) Zr;have HO5:=Zh zqT;clear zqT hg5))
   rename_i K hK
   go_simp
   refine hK _ _ ?_;clear hK;have hx3:Ext w1 w5:=zqI.trans hx5;have hI3:IvV w5 A5 (T.take i++T.drop (i+1)):=⟨⟨64,by have h:=HO5.out.arr;rw [<-za3] at h;exact h⟩,fun q hq=>by
    rcases List.mem_append.1 hq with hq |hq
    ·have :=HTB.out q (List.mem_of_mem_take hq);omega
    ·have :=HTB.out q (List.mem_of_mem_drop hq);omega⟩
   obtain ⟨L,er,hL8,hLr,zqr⟩:=HVB.out w5 A5 _ (i+(tl-(i+1))) c5 (b:Int) hI3 (by rw [List.length_append,List.length_take,List.length_drop,HTL.out];omega) (by omega) (.inr ⟨by omega,by omega⟩) hx3;have zqh:Ext w w5:=zqq.trans hx3;clear hI3 hx4 hx5 zqI zqq HOE HSA HSB HLA HSZ HOW HO5 hx3 HTB HP HP0 HTL HIB HO2;go_upto_region 18 with fail
   have HVR:=Zh zqr;have HSM:=j0 hL8 hLr hn4;have hee:(er==er)=true:=by simp
   clear zqr hLr HVB;go_upto_region 20 with (first
    |(go_at_call 42;refine (HVR.out _ Zi).1.mono ?_;rintro e w14 ⟨X4,q4,rfl,hM4,zq4⟩;have HM4:=Zh hM4;clear hM4)
    |(go_at_call 44;refine (HVR.out _ Zi).2.mono ?_;rintro e w15 ⟨X5,q5,rfl,hM5,zq5⟩;have HM5:=Zh hM5;clear hM5))
   have zrl:Ext w w15:=zqh.trans Zi;clear HVR;go_wp2_with (first
    |(go_at_call 25;refine (HSM.out _ _ _ _ _ _ _ HM4.out HM5.out Zi Zi).mono ?_;rintro e w17 ⟨rfl,nq,rfl⟩)
    |(go_at_call 43;refine jY.mono ?_;rintro e w18 ⟨rfl,zrm⟩))
   go_ret;exact ⟨rfl,Step.of _ _⟩
 ·obtain ⟨j,hj⟩:∃j:Nat,j=i-1:=⟨_,rfl⟩;have hwi:IntKind.i64.wrap ((i:Int)-1)=(i:Int)-1:=IntWalk.i64_in _ (by omega);have hmx:max ((i:Int)-1) 0=(j:Int):=by omega
  have hji:j<=i:=by omega
  have hjd:d2≠j:=by omega
  have zru:(i:Int)<=(d2:Int):=by omega
  have hj2:j<tl:=by omega
  have hj3:j<=tl:=by omega
  clear hj;have HOE:Hid (∀W,Ext (w2.alloc (.cells #[] 64)) W->Own W w2.heap.size 64 2 (some ⟨w2.heap.size,0,none⟩) 0 0 []):=Zh (fun W e=>(Own.new w2 64 2 0 #[] rfl (by omega)).ext e);have har:=HO2.out.arr;have htk:=zae T i (by rw [HTL.out];omega);have hdp:=zae T (j) (by rw [HTL.out];omega);have HSA:Hid (∀W,Ext w2 W->Arr W (some ⟨g,0,none⟩) 64 (zF (T.take i))):=Zh (fun W e=>by rw [<-htk.1];exact (har.take _).ext e)
  have HSB:Hid (∀W,Ext w2 W->Arr W (some ⟨g,j*2,none⟩) 64 (zF (T.drop (j)))):=Zh (fun W e=>by
   rw [<-hdp.2];have h:=(har.drop (j*2)).ext e;rwa [Nat.zero_add] at h)
  have HLA:Hid ((zF (T.take i)).length=i*2/\(zF (T.drop (j))).length=(tl-j)*2):=Zh ⟨by rw [JB,List.length_take,HTL.out];omega,by (rw [JB,List.length_drop,HTL.out])<;>omega⟩;clear har htk hdp c0 c1' f0 f1 d0 d1 g0 g1;go_upto_region 13 with fail
  go_region_law (first
   |((refine QM _ rfl (.tmp 89) (.tmp 92) 58 rfl (w2.heap.size) 64 (.agg #[.int .i64 0,.int .i64 0]) 2 16 Tryz.underlying58 jB rfl (by decide) (by decide) (some ⟨w2.heap.size,0,none⟩) 0 0 [] (by first |(simp [Act.eval];done) |(simp [Act.eval];omega) |(simp [Act.eval,Act.put];done)) (by exact HOE.out _ Zi) (some ⟨g,0,none⟩) i d2 (zF (T.take i)) (by first |(simp [Act.eval];done) |(simp [Act.eval];omega) |(simp [Act.eval,Act.put];done)) (by exact HSA.out _ Zi) HLA.out.1 (zaf _) (by omega) (by simp<;>omega) ?_);intro A4 c4 w4 zqd hg4;have hx4:Ext w2 w4:=hg4.ext Zi (by omega);have HSZ:Hid (w2.heap.size<=w4.heap.size):=Zh hx4.size;have HOW:Hid (Own w4 (w2.heap.size) 64 2 A4 i c4 (zF (T.take i))):=Zh (by simpa using zqd);clear zqd hg4)
   |((refine QM _ rfl (.tmp 93) (.tmp 98) 58 rfl (w2.heap.size) 64 (.agg #[.int .i64 0,.int .i64 0]) 2 16 Tryz.underlying58 jB rfl (by decide) (by decide) A4 i c4 (zF (T.take i)) (by first |(simp [Act.eval];done) |(simp [Act.eval];omega) |(simp [Act.eval,Act.put];done)) (by first |exact HOW.out |exact HOW.out.ext Zi) (some ⟨g,j*2,none⟩) (tl-j) (d2-j) (zF (T.drop (j))) (by first |(simp [Act.eval];done) |(simp [Act.eval];omega) |(simp [Act.eval,Act.put];done)) (by exact HSB.out _ (hx4.trans Zi)) HLA.out.2 (zaf _) (by omega) (by have :=HSZ.out;first |omega |(simp;omega)) ?_);intro A5 c5 w5 zqT hg5;have hx5:Ext w2 w5:=hg5.ext (hx4.trans Zi) Zr;have HO5:=Zh zqT;clear zqT hg5))
  all_goals (
   rename_i K hK
   go_simp
   refine hK _ _ ?_;clear hK;have hx3:Ext w1 w5:=zqI.trans hx5;have hI3:IvV w5 A5 (T.take i++T.drop (j)):=⟨⟨64,by have h:=HO5.out.arr;rw [<-za3] at h;exact h⟩,fun q hq=>by
    rcases List.mem_append.1 hq with hq |hq
    ·have :=HTB.out q (List.mem_of_mem_take hq);omega
    ·have :=HTB.out q (List.mem_of_mem_drop hq);omega⟩
   obtain ⟨L,er,hL8,hLr,zqr⟩:=HVB.out w5 A5 _ (i+(tl-j)) c5 (b:Int) hI3 (by rw [List.length_append,List.length_take,List.length_drop,HTL.out];omega) (by omega) (.inr ⟨by omega,by omega⟩) hx3;have zqh:Ext w w5:=zqq.trans hx3;clear hI3 hx4 hx5 zqI zqq HOE HSA HSB HLA HSZ HOW HO5 hx3 HTB HP HP0 HTL HIB HO2;go_upto_region 18 with fail
   have HVR:=Zh zqr;have HSM:=j0 hL8 hLr hn4;have hee:(er==er)=true:=by simp
   clear zqr hLr HVB;go_upto_region 20 with (first
    |(go_at_call 42;refine (HVR.out _ Zi).1.mono ?_;rintro e w14 ⟨X4,q4,rfl,hM4,zq4⟩;have HM4:=Zh hM4;clear hM4)
    |(go_at_call 44;refine (HVR.out _ Zi).2.mono ?_;rintro e w15 ⟨X5,q5,rfl,hM5,zq5⟩;have HM5:=Zh hM5;clear hM5))
   have zrl:Ext w w15:=zqh.trans Zi;clear HVR;go_wp2_with (first
    |(go_at_call 25;refine (HSM.out _ _ _ _ _ _ _ HM4.out HM5.out Zi Zi).mono ?_;rintro e w17 ⟨rfl,nq,rfl⟩)
    |(go_at_call 43;refine jY.mono ?_;rintro e w18 ⟨rfl,zrm⟩))
   go_ret;exact ⟨rfl,Step.of _ _⟩)
 ·obtain ⟨w3,hw3⟩:∃w3,w3=(((w2.setCell ⟨g,i*2,none⟩ (.int .i64 y1)).setCell ⟨g,i*2+1,none⟩ (.int .i64 y2)).setCell ⟨g,0,none⟩ (.int .i64 x1)).setCell ⟨g,1,none⟩ (.int .i64 x2):=⟨_,rfl⟩;have hx3:Ext w1 w3:=by rw [hw3];exact Zi
  have hI3:IvBk w3 g ((T.set i (y1,y2)).set 0 (x1,x2)):=by
   have h:=(HIB.out.set i (y1,y2)).set 0 (x1,x2);rw [hw3];simpa using h
  obtain ⟨L,er,hL8,hLr,zqr⟩:=HVB.out w3 (some ⟨g,0,none⟩) _ tl d2 (b:Int) (hI3.toV (zb5 (zb5 (fun q hq=>by have :=HTB.out q hq;omega) ⟨by omega,by omega,by omega,by omega⟩) ⟨by omega,by omega,by omega,by omega⟩)) (by rw [List.length_set,List.length_set];exact HTL.out) (by omega) (.inr ⟨by omega,by omega⟩) hx3;have zqh:Ext w w3:=zqq.trans hx3;clear hI3;have h00:(T.set i (y1,y2))[0]? =some (y1,y2):=by
   rcases Nat.eq_zero_or_pos i with rfl |hi0
   ·rw [List.getElem?_set_self (by rw [HTL.out];omega)]
   ·rw [List.getElem?_set_ne (by omega)];exact HP0.out
  obtain ⟨k0,k1,k2,k3⟩:=(HIB.out.set i (y1,y2)).cells h00;simp only [Nat.zero_mul,Nat.zero_add] at k0 k1 k2 k3;have hnz:(0:Int)<(tl:Int):=by omega
  have zv9:0<tl:=by omega
  have hg3:g<((w2.setCell ⟨g,i*2,none⟩ (.int .i64 y1)).setCell ⟨g,i*2+1,none⟩ (.int .i64 y2)).heap.size:=by rw [Zt,Zt];exact hg2
  clear h00;go_upto_region 15 with fail
  go_region
  rw [<-hw3];clear hw3 c0 c1' f0 f1 d0 d1 g0 g1 k0 k1 k2 k3 hg3;go_upto_region 18 with fail
  have HVR:=Zh zqr;have HSM:=j0 hL8 hLr hn4;have hee:(er==er)=true:=by simp
  clear zqr hLr HVB;go_upto_region 20 with (first
   |(go_at_call 42;refine (HVR.out _ Zi).1.mono ?_;rintro e w14 ⟨X4,q4,rfl,hM4,zq4⟩;have HM4:=Zh hM4;clear hM4)
   |(go_at_call 44;refine (HVR.out _ Zi).2.mono ?_;rintro e w15 ⟨X5,q5,rfl,hM5,zq5⟩;have HM5:=Zh hM5;clear hM5))
  have zrl:Ext w w15:=zqh.trans Zi;clear HVR;go_wp2_with (first
   |(go_at_call 25;refine (HSM.out _ _ _ _ _ _ _ HM4.out HM5.out Zi Zi).mono ?_;rintro e w17 ⟨rfl,nq,rfl⟩)
   |(go_at_call 43;refine jY.mono ?_;rintro e w18 ⟨rfl,zrm⟩))
  go_ret;exact ⟨rfl,Step.of _ _⟩
 ·have hws:IntKind.i64.wrap ((b:Int)+lo2)=(b:Int)+lo2:=IntWalk.i64_in _ (by omega);obtain ⟨bd,hbd⟩:∃bd,(b:Int)+lo2=bd:=⟨_,rfl⟩;rw [hbd] at hws;obtain ⟨L,er,hL8,hLr,zqr⟩:=HVB.out w2 (some ⟨g,0,none⟩) T tl d2 bd (HIB.out.toV (fun q hq=>by have :=HTB.out q hq;omega)) HTL.out (by omega) (by omega) zqI;have zqh:Ext w w2:=zqq.trans zqI;clear c0 c1' f0 f1 d0 d1 g0 g1;go_upto_region 18 with fail
  have HVR:=Zh zqr;have HSM:=j0 hL8 hLr hn4;have hee:(er==er)=true:=by simp
  clear zqr hLr HVB;go_upto_region 20 with (first
   |(go_at_call 42;refine (HVR.out _ Zi).1.mono ?_;rintro e w14 ⟨X4,q4,rfl,hM4,zq4⟩;have HM4:=Zh hM4;clear hM4)
   |(go_at_call 44;refine (HVR.out _ Zi).2.mono ?_;rintro e w15 ⟨X5,q5,rfl,hM5,zq5⟩;have HM5:=Zh hM5;clear hM5))
  have zrl:Ext w w15:=zqh.trans Zi;clear HVR;go_wp2_with (first
   |(go_at_call 25;refine (HSM.out _ _ _ _ _ _ _ HM4.out HM5.out Zi Zi).mono ?_;rintro e w17 ⟨rfl,nq,rfl⟩)
   |(go_at_call 43;refine jY.mono ?_;rintro e w18 ⟨rfl,zrm⟩))
  go_ret;exact ⟨rfl,Step.of _ _⟩
 ·have hx0:=HO2.out;go_upto_region 18 with (at_builtin;go_loud (refine zI _ rfl _ _ 58 rfl w1.heap.size 64 (.agg #[.int .i64 0,.int .i64 0]) 2 16 Tryz.underlying58 jB rfl (by omega) (by omega) (some ⟨g,0,none⟩) tl d2 _ rfl (HO2.out.ext Zi) (some ⟨w2.heap.size,0,none⟩) 1 1 [.int .i64 lo,.int .i64 hi] rfl (Arr.new w2 64 #[.int .i64 lo,.int .i64 hi]) (by simp) (by simp [Value.oneCell']) (by omega) (by have :=zqI.size;simp;omega) ?_);intro A3 c3 w3 zp7 hg)
  have hx3:Ext w1 w3:=hg.ext (zqI.trans Zi) Zr;have hI3:IvV w3 A3 (T++[(lo,hi)]):=⟨⟨64,by have h:=zp7.arr;simpa [zF] using h⟩,fun q hq=>by
   rcases List.mem_append.1 hq with hq |hq
   ·have :=HTB.out q hq;omega
   ·obtain rfl:=List.mem_singleton.1 hq;exact ⟨by omega,by omega,by omega,by omega⟩⟩
  obtain ⟨L,er,hL8,hLr,zqr⟩:=HVB.out w3 A3 _ (tl+1) c3 (b:Int) hI3 (by rw [List.length_append,HTL.out];rfl) (by omega) (.inr ⟨by omega,by omega⟩) hx3;have zqh:Ext w w3:=zqq.trans hx3;clear hI3 zp7 hg c0 c1' f0 f1 d0 d1 g0 g1 hx0;have HVR:=Zh zqr;have HSM:=j0 hL8 hLr hn4;have hee:(er==er)=true:=by simp
  clear zqr hLr HVB;go_upto_region 20 with (first
   |(go_at_call 42;refine (HVR.out _ Zi).1.mono ?_;rintro e w14 ⟨X4,q4,rfl,hM4,zq4⟩;have HM4:=Zh hM4;clear hM4)
   |(go_at_call 44;refine (HVR.out _ Zi).2.mono ?_;rintro e w15 ⟨X5,q5,rfl,hM5,zq5⟩;have HM5:=Zh hM5;clear hM5))
  have zrl:Ext w w15:=zqh.trans Zi;clear HVR;go_wp2_with (first
   |(go_at_call 25;refine (HSM.out _ _ _ _ _ _ _ HM4.out HM5.out Zi Zi).mono ?_;rintro e w17 ⟨rfl,nq,rfl⟩)
   |(go_at_call 43;refine jY.mono ?_;rintro e w18 ⟨rfl,zrm⟩))
  go_ret;exact ⟨rfl,Step.of _ _⟩
end Go.Proofs.YtjehjkipcaohpaaGreat

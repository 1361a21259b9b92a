/- IvW R11f Vx11 R12b VerG VerS Wd12 -/
import Derived.Test.YtjehjkipcaohpaaGreatY25
import Derived.Test.YtjehjkipcaohpaaGreatProg
import Derived.Test.YtjehjkipcaohpaaGreatYSh
set_option maxHeartbeats 8000000
set_option linter.unusedVariables false
set_option linter.unusedSimpArgs false
set_option linter.constructorNameAsVariable false
namespace Go.Proofs.YtjehjkipcaohpaaGreat
open Go.RowKit
open La
theorem zoS (C:List (Int×Int)):∀(i:Nat) (p:Int×Int),C[i]? =some p->(Zs C)[i*2]? =some (.int .i64 p.1)/\(Zs C)[i*2+1]? =some (.int .i64 p.2):=by
 induction C with
 |nil=>intro i p h;simp at h
 |cons q C ih=>
  intro i p h;have e:Zs (q::C)= .int .i64 q.1:: .int .i64 q.2::Zs C:=rfl;rw [e]
  cases i with
  |zero=>
   simp at h;subst h;simp
  |succ i=>
   rw [show (i+1)*2=i*2+1+1 by omega,show i*2+1+1+1=(i*2+1)+1+1 by omega];simp only [List.getElem?_cons_succ] at h |-
   exact ih i p h
theorem zoT (C:List (Int×Int)):∀(i:Nat) (p:Int×Int),Zs (C.set i p)=((Zs C).set (i*2) (.int .i64 p.1)).set (i*2+1) (.int .i64 p.2):=by
 induction C with
 |nil=>intro i p;simp [Zs]
 |cons q C ih=>
  intro i p;have e:∀q C,Zs (q::C)= .int .i64 q.1:: .int .i64 q.2::Zs C:=fun _ _=>rfl
  cases i with
  |zero=>simp [e]
  |succ i=>
   rw [show (i+1)*2=i*2+1+1 by omega,show i*2+1+1+1=(i*2+1)+1+1 by omega];simp only [List.set_cons_succ,e];rw [ih i p]
def IvBk (w:World) (g:Nat) (C:List (Int×Int)):Prop:=∃cs,VRow w g 64 cs/\cs.take (C.length*2)=Zs C
section
variable {w w':World} {g:Nat} {C:List (Int×Int)}
theorem IvBk.cells (h:IvBk w g C) {i:Nat} {p:Int×Int} (hp:C[i]? =some p):w.cell? ⟨g,i*2,none⟩=some (.int .i64 p.1)/\w.cell? ⟨g,i*2+1,none⟩=some (.int .i64 p.2)/\w.frozen? ⟨g,i*2,none⟩=false/\w.frozen? ⟨g,i*2+1,none⟩=false:=by
 obtain ⟨cs,h1,h2⟩:=h;obtain ⟨a,b⟩:=zoS C i p hp;have hi:=(List.getElem?_eq_some_iff.1 hp).1;rw [<-h2,List.getElem?_take,if_pos (by omega)] at a b;exact ⟨h1.cell a,h1.cell b,h1.frozen _,h1.frozen _⟩
theorem IvBk.set (h:IvBk w g C) (i:Nat) (p:Int×Int):IvBk ((w.setCell ⟨g,i*2,none⟩ (.int .i64 p.1)).setCell ⟨g,i*2+1,none⟩ (.int .i64 p.2)) g (C.set i p):=by
 obtain ⟨cs,h1,h2⟩:=h;refine ⟨_,(h1.set (i*2) _).set (i*2+1) _,?_⟩;rw [List.length_set,List.take_set,List.take_set,h2,zoT]
theorem IvBk.toV (h:IvBk w g C) (hb:∀p∈C,-9223372036854775808<=p.1/\p.1<=9223372036854775807/\-9223372036854775808<=p.2/\p.2<=9223372036854775807):IvV w (some ⟨g,0,none⟩) C:=by
 obtain ⟨cs,h1,h2⟩:=h;refine ⟨⟨64,?_⟩,hb⟩;have :=h1.arr.take (C.length*2);rw [h2] at this;exact this
theorem Own.ivB {base n c:Nat} {A:Option Addr} (h:Own w base 64 2 A n c (Zs C)) (hl:C.length=n) (h0:0<n):∃g,A=some ⟨g,0,none⟩/\base<=g/\g<w.heap.size/\IvBk w g C:=by
 obtain ⟨-,h2⟩:=h;rcases h2 with ⟨_,h0'⟩ |⟨g,cap,cur,hv,hb,hh,h3,h4,h5,h6⟩
 ·omega
 ·injection hv with hA hnn hc
  subst hA hc;refine ⟨g,rfl,hb,zw hh,cur.toList,by simpa [VRow] using hh,?_⟩;rw [hl];exact h6
end
theorem zoU {C:List (Int×Int)} {i:Nat} {p:Int×Int} {P:Int×Int->Prop} (h:∀q∈C,P q) (hp:P p):∀q∈C.set i p,P q:=fun q hq=>by
 rcases List.mem_or_eq_of_mem_set hq with h1 |h1
 ·exact h q h1
 ·exact h1▸hp
def zhG (w:World) (its:List (Int×List Int)) (N:Nat) (s3 i:Value) (wr:World):Prop:=∃(k:Nat) (B:Option Addr) (d:Nat) (vs:List Value),k<=N/\i= .int .i64 k/\s3= .slice B k d/\Hid (MOwn wr w.heap.size B k d ((its.take k).map Prod.snd) vs)/\Ext w wr
set_option maxRecDepth 20000 in
theorem zoV {w0 w:World} {A:Option Addr} {c:Nat} {us:List Value} {its:List (Int×List Int)} (hA':Arr w0 A 45 us) (hV':ItV w0 us its) (hl:its.length<=1000000) [hx:Ext w0 w]:
  Calls Tryz.prog 53 #[.slice A its.length c] w (zcu w (its.map Prod.snd)):=by
 have HA:=Zh (hA'.ext hx);have HV:=Zh (hV'.ext hx);obtain ⟨N,hN⟩:∃N,N=its.length:=⟨_,rfl⟩;have HN:=Zh hN;rw [<-hN] at hl |-
 clear hA' hV' hN;unfold zcu;go_enter Tryz.func53,Tryz.ntmps53;go_wp2;go_loopw [3,8] (fun s3 i wr=>zhG w its N s3 i wr) (fun _ i _=>N-(intOf i).toNat)
 case atStart=>exact ⟨0,none,0,[],by omega,rfl,rfl,Zh (MOwn.nil _ _),Zi⟩
 case round=>
  unfold zhG at hrel;obtain ⟨k,B,d,vs,hk,rfl,rfl,HM,hxr⟩:=hrel;by_cases hlt:k<N
  ·obtain ⟨p,hp⟩:∃p,its[k]? =some p:=⟨_,List.getElem?_eq_getElem (by rw [<-HN.out];exact hlt)⟩;obtain ⟨xa,x⟩:=p;obtain ⟨X,cx,a1,a2,a3,a4,a5⟩:=HV.out.2 k _ hp;obtain ⟨b,o,rfl,z1,z3⟩:=HA.out.at_ a1;obtain ⟨b',o',hA',z2,-⟩:=HA.out.at_ a2;injection hA' with hA'
   injection hA' with y1 y2
   subst y1 y2;rw [<-Nat.add_assoc] at z2;simp only at a3 a4 z1 z2;have oB:Old b w:=⟨z3⟩;have hc1:wr.cell? ⟨b,o+k*2,none⟩=some (.int .i64 xa):=(ze w).trans z1;have hc2:wr.cell? ⟨b,o+k*2+1,none⟩=some (.slice X x.length cx):=(ze w).trans z2;have HX:=Zh a3;have HTK:Hid ((its.take (k+1)).map Prod.snd=(its.take k).map Prod.snd++[x]):=Zh (by rw [List.take_add_one,hp];simp);obtain ⟨xl,hxl⟩:∃xl,xl=x.length:=⟨_,rfl⟩
   have HXL:=Zh hxl;rw [<-hxl] at hc2 a4;clear a1 a2 a3 z1 z2 hp hxl;have zqC:Arr ((wr.alloc (.cells #[.int .i64 xa,.slice X xl cx] 45)).alloc (.cells #[.slice X xl cx] 37)) (some ⟨wr.heap.size+1,0,none⟩) 37 [.slice X xl cx]:=by
    have :=Arr.new (wr.alloc (.cells #[.int .i64 xa,.slice X xl cx] 45)) 37 #[.slice X xl cx];rwa [World.size_alloc] at this
   go_wp2_with (at_builtin;refine zE _ rfl _ _ 26 rfl w.heap.size 37 (.slice none 0 0) 1 24 Tryz.underlying26 qr rfl (by omega) (by omega) B k d vs rfl (HM.out.own.ext Zi) _ 1 1 [.slice X xl cx] rfl zqC (by simp) (by simp [Value.oneCell']) (by omega) (by have :=hxr.size;simp;omega) ?_;intro A4 d4 w4 zqn hg4)
   have hx4:Ext w w4:=hg4.ext (hxr.trans Zi) (Nat.le_refl _);refine ⟨⟨k+1,A4,d4,vs++[.slice X xl cx],by omega,by go_num,rfl,Zh ?_,hx4⟩,by simp [intOf]<;>omega⟩;rw [HTK.out];rw [HXL.out] at zqn a4 |-
   exact HM.out.snoc (r:=x) Zi hg4 zqn (HX.out.ext (hxr.trans Zi)) a4 a5
  ·obtain rfl:k=N:=by omega
   have htk:its.take k=its:=List.take_of_length_le (by rw [<-HN.out];exact Nat.le_refl _);rw [htk] at HM;have HCP:=Zh HM.out.own.cap;go_wp2_with fail
   go_ret;exact ⟨B,d,by rw [List.length_map,<-HN.out];rfl,HM.out.mat,by rw [List.length_map,<-HN.out];exact HCP.out.1,HCP.out.2,Step.of _ _⟩
theorem zbQ (w:World):Mat64 w none []:=⟨[],rfl,Arr.nil,fun i r hr=>by simp at hr⟩
theorem zoW {α:Type} {A B D:List α} (h:A<+:D):(A++B<+:D↔B<+:D.drop A.length):=by
 obtain ⟨E,rfl⟩:=h;rw [List.prefix_append_right_inj,List.drop_left]
theorem zoX {α:Type} {x p:α} {T C:List α} {a:Nat} (h:C[a]? =some p):(x::T<+:C.drop a↔x=p/\T<+:C.drop (a+1)):=by
 obtain ⟨h1,h2⟩:=List.getElem?_eq_some_iff.1 h;rw [List.drop_eq_getElem_cons h1,h2,List.cons_prefix_cons]
theorem zoY (m:List (List Int)) (b:Int) (k:Nat) (t:List Int) {p q:Nat} (h:p<=q):∃E,tK m b k t q=tK m b k t p++E:=by
 induction q with
 |zero=>obtain rfl:p=0:=by omega
        exact ⟨[],by simp⟩
 |succ q ih=>
  rcases Nat.lt_or_ge p (q+1) with h1 |h1
  ·obtain ⟨E,hE⟩:=ih (by omega);exact ⟨E++tE m b k ((zf m b (k+1) t+(q:Int))::t),by rw [zbL,hE,List.append_assoc]⟩
  ·obtain rfl:p=q+1:=by omega
   exact ⟨[],by simp⟩
def JZ (w:World) (T:List (Int×Int)) (L:Nat) (C:List (Int×Int)) (a:Nat) (v:Int) (e:Ending) (w':World):Prop:=
 ∃r v':Int,e= .returned (.tuple #[.int .i64 r,.int .i64 v'])/\((T<+:C.drop a/\r=((a+T.length:Nat):Int)/\v'=min (v+(L:Int)) 16384)∨(¬T<+:C.drop a/\r=-1/\v'=0))/\Step w w'
def zhH (m:List (List Int)) (b:Int) (k:Nat) (t:List Int) (lo v:Int) (J:Nat) (C:List (Int×Int)) (a:Nat) (w0:World) (s4 s5 x:Value) (wr:World):Prop:=
 ∃(i a4:Nat) (v':Int),i<=J/\x= .int .i64 (lo+(i:Int))/\s4= .int .i64 a4/\Hid (a4=a+1+(tK m b k t i).length)/\s5= .int .i64 v'/\v'=min (v+((ZN m b (k+1) t i).length:Int)) 16384/\tK m b k t i<+:C.drop (a+1)/\Ext w0 wr
set_option maxRecDepth 20000 in
theorem zoZ {m:List (List Int)} {n:Nat} {bound:Int} {C:List (Int×Int)} (hL:LLLed m) (h1:m.length=n) (hb:0<=bound) (hb1:bound<1073741824) (hC:C.length<=1099511627776) (k:Nat):
  ∀(w:World) (SB DB TA CA:Option Addr) (sc dc tc cc q a:Nat) (t:List Int) (v:Int),n=k+q+1->FrV w m SB DB->Ints w TA 2 .i64 t->t.length=q->(∀a∈t,-9223372036854775808<=a/\a<=9223372036854775807)->0<=left (ent m) bound (k+1) t->IvV w CA C->a<=C.length->0<=v->v<=16384->
  Calls Tryz.prog 69 #[.agg #[.int .i64 n,.slice SB n sc,.slice DB (n+1) dc],.int .i64 bound,.slice TA q tc,.slice CA C.length cc,.int .i64 a,.int .i64 v] w (JZ w (tE m bound k t) (zN m bound k t).length C a v):=by
 induction k using Nat.strongRecOn with
 |ind k ih=>
  intro w SB DB TA CA sc dc tc cc q a t v hq hF hT htl htb h0 hI ha hv0 hvl;have IH:=Zh ih;clear ih;have hr:=Zw hL.red;have hn8:=hL.len8;have hkm:k<m.length:=by omega
  have htm:t.length=m.length-1-k:=by omega
  obtain ⟨v1,v2,v3,v4,v5,v6⟩:=zaL hr hb hb1 hkm htm h0;have HIV:Hid (∀W,Ext w W->Calls Tryz.prog 108 #[.agg #[.int .i64 n,.slice SB n sc,.slice DB (n+1) dc],.int .i64 bound,.slice TA q tc] W (zt W (.tuple #[.int .i64 (zf m bound k t),.int .i64 (zx m bound k t)]))):=Zh (fun W e=>
   zbJ hF hL h1 hq hT htl htb (by omega) (by omega) h0 (by omega) (by omega) (by omega) (by omega))
  have HKL:=Zh (zhC m bound k t);rw [zhA];unfold JZ;obtain ⟨rest,hrs⟩:∃rest,rest=tR m bound k t:=⟨_,rfl⟩;have HRS:=Zh hrs;rw [<-hrs];obtain ⟨lo,hlo⟩:∃lo,lo=zf m bound k t:=⟨_,rfl⟩;obtain ⟨hi,hhi⟩:∃hi,hi=zx m bound k t:=⟨_,rfl⟩;have HLO:=Zh (And.intro hlo hhi);rw [<-hlo] at v1 v2 v3 v4 HIV |-
  rw [<-hhi] at v1 v2 v5 v6 HIV |-
  have HFV:=Zh hF;have HTV:=Zh hT;have HTB:=Zh htb;have H0:=Zh h0;have HH1:=Zh h1;have HTL:=Zh htl;have HQ:=Zh hq;have HI:=Zh hI;have hqn:q<n:=by omega
  have hn9:n<=8:=by omega
  generalize hLL:(zN m bound k t).length=L at*
  have HLL:=Zh hLL;clear hlo hhi h1 hkm hq htl hrs hF hT htb h0 hI hr htm hLL;by_cases hat:a<C.length
  ·obtain ⟨⟨x1,x2⟩,hxx⟩:∃p,C[a]? =some p:=⟨_,List.getElem?_eq_getElem hat⟩;have HXX:=Zh hxx;have HPC:=Zh (fun T=>zoX (x:=(lo,hi)) (T:=T) hxx);have hdc:decide ((C.length:Int)<=(a:Int))=false:=by simp;omega
   have hdn:decide (C.length<=a)=false:=by simp;omega
   have HCL:=Zh (And.intro hat ha);by_cases hxy:x1=lo/\x2=hi
   ·obtain ⟨rfl,rfl⟩:=hxy;have HPE:Hid (∀T,((x1,x2)::T<+:C.drop a↔T<+:C.drop (a+1))):=Zh (fun T=>by rw [HPC.out];simp);clear hxx HPC;go_enter Tryz.func69,Tryz.ntmps69;go_upto_region 2 with (go_at_call 108;refine (HIV.out _ Zi).mono ?_;rintro e w1 ⟨rfl,hs1⟩)
    obtain ⟨bc,oc,rfl,f1,f2,f3⟩:=(HI.out.ext (Zi:Ext w w1)).at_ HXX.out;simp only at f1 f2;go_upto_region 5 with fail
    clear f1 f2;have hfb:w1.heap[w.heap.size]? =some (.cells #[.int .i64 n,.slice SB n sc,.slice DB (n+1) dc] 89 (0,0)):=zc (Zi:Ext (w.alloc (.cells #[.int .i64 n,.slice SB n sc,.slice DB (n+1) dc] 89)) w1) (heap_alloc_new w _);have HFB:=Zh hfb;have hwl:w.heap.size<w1.heap.size:=zw hfb;have oW:Old w.heap.size w1:=⟨hwl⟩;have zqV:Ext w w1:=Zi;obtain ⟨⟨g0,g1,g2⟩,-,-⟩:=qP hfb;clear hfb
    cases k with
    |zero=>
     have hb0:((q:Int)+1==(n:Int))=true:=by have :=HQ.out;simp;omega
     obtain rfl:rest=[]:=HRS.out;have hLv:(L:Int)=x2-x1+1:=by
      have h3:=HLL.out;obtain ⟨h4,h5⟩:=HLO.out;rw [zN,List.length_map,List.length_range] at h3;rw [<-h3,h4,h5];unfold zD;omega
     go_wp2_with fail
     go_ret2
     refine ⟨_,_,rfl,.inl ⟨?_,?_,?_⟩,Step.of _ _⟩
     ·exact (HPE.out []).2 List.nil_prefix
     ·simp
     ·show min (v+min (x2-x1+1) 16384) 16384=min (v+(L:Int)) 16384;rw [hLv];omega
    |succ k=>
     have hr:=Zw hL.red;have hq0:=HQ.out;have hmj:=HH1.out;have htq:=HTL.out;have hkm:k+1<m.length:=by omega
     have htm:t.length=m.length-1-(k+1):=by omega
     obtain ⟨hlo,hhi⟩:=HLO.out;obtain ⟨J,hJ⟩:∃J,J=zD m bound (k+1) t:=⟨_,rfl⟩;have hJ2:J=(x2-x1+1).toNat:=by rw [hJ,hlo,hhi];rfl
     have hre:rest=tK m bound k t J:=by rw [hJ];exact HRS.out
     have hLv:(ZN m bound (k+1) t J).length=L:=by rw [hJ,<-HKL.out];exact HLL.out
     have HK1:Hid (∀i,i<J->0<=left (ent m) bound (k+1) ((x1+(i:Int))::t)):=Zh (fun i hi'=>by
      rw [hlo];exact qL hr t hkm htm H0.out (j:=i) (by rw [hJ] at hi';exact hi'))
     have HK4:Hid (∀i:Nat,tK m bound k t (i+1)=tK m bound k t i++tE m bound k ((x1+(i:Int))::t)):=Zh (fun i=>by rw [zbL,<-hlo]);have HK5:Hid (∀i:Nat,(ZN m bound (k+1) t (i+1)).length=(ZN m bound (k+1) t i).length+(zN m bound k ((x1+(i:Int))::t)).length):=Zh (fun i=>by rw [zdK,List.length_append,<-hlo];rfl);have HK6:Hid (∀i:Nat,i<=J->∃E,rest=tK m bound k t i++E):=Zh (fun i hi'=>by
      rw [hre];exact zoY m bound k t hi')
     have HRE:=Zh hre;have zpi:Hid (∀i,i<J->∀a∈(x1+(i:Int))::t,-9223372036854775808<=a/\a<=9223372036854775807):=Zh (fun i hi' a ha=>by
      rcases List.mem_cons.1 ha with rfl |ha
      ·omega
      ·exact HTB.out a ha)
     have hq1:q+1<n:=by omega
     have hbq:((q:Int)+1==(n:Int))=false:=by simp;omega
     have hhl:x2-x1+1=(J:Int):=by omega
     have HIH:=Zh (IH.out k (by omega));have HFR:Hid (∀W,Ext w1 W->W.cell? ⟨w.heap.size,0,none⟩=some (.int .i64 n)/\W.cell? ⟨w.heap.size,1,none⟩=some (.slice SB n sc)/\W.cell? ⟨w.heap.size,2,none⟩=some (.slice DB (n+1) dc)):=Zh (fun W e=>(qP (zc e HFB.out)).1);clear hre hr hq0 hmj htq hkm htm hlo hhi hJ hJ2 IH;have HLV:=Zh hLv;clear hLv;go_wp2_with fail
     clear oW g0 g1 g2;go_loopw [4,5,16] (fun s4 s5 x wr=>zhH m bound k t x1 v J C a w1 s4 s5 x wr) (fun _ _ x _=>(x2-intOf x+1).toNat)
     case atStart=>exact ⟨0,a+1,v,by omega,by simp,by simp,Zh (by simp [tK]),rfl,by simp [ZN];omega,by simp [tK],Zi⟩
     case round=>
      unfold zhH at hrel;obtain ⟨i,a4,v',hi',rfl,rfl,HA4,rfl,hv',zsR,hxr⟩:=hrel;have ha4:=HA4.out;have HPR:=Zh zsR;have zve:=zsR.length_le;rw [List.length_drop] at zve;clear zsR;have hxw:Ext w wr:=zqV.trans hxr;obtain ⟨f0,f1,f2⟩:=HFR.out wr hxr;have oW2:Old w.heap.size wr:=⟨Nat.lt_of_lt_of_le hwl hxr.size⟩;by_cases hlt:i<J
      ·have hF:=HFV.out.ext hxw;have hT:=HTV.out.ext hxw;have hIw:=HI.out.ext hxw;have hle:x1+(i:Int)<=x2:=by omega
       have HLG:Hid (∀W,Ext wr W->Calls Tryz.prog 109 #[.int .i64 (x1+(i:Int)),.slice TA q tc] W (fun e w'=>∃A c,e= .returned (.slice A (q+1) c)/\Ints w' A 2 .i64 ((x1+(i:Int))::t)/\Step W w')):=Zh (fun W e=>by
        have :=zbG (w:=W) (c:=tc) (x1+(i:Int)) (hT.ext e) (by rw [HTL.out];omega);rw [HTL.out] at this;refine this.mono ?_;rintro e w' ⟨A,c,rfl,a1,-,-,a4⟩;exact ⟨A,c,by rw [List.length_cons,HTL.out],a1,a4⟩)
       have zwa:0<=v'/\v'<=16384:=by omega
       have HCN:Hid (∀(W:World) (A:Option Addr) (c:Nat),Ints W A 2 .i64 ((x1+(i:Int))::t)->Ext wr W->Calls Tryz.prog 69 #[.agg #[.int .i64 n,.slice SB n sc,.slice DB (n+1) dc],.int .i64 bound,.slice A (q+1) c,.slice (some ⟨bc,oc,none⟩) C.length cc,.int .i64 a4,.int .i64 v'] W (JZ W (tE m bound k ((x1+(i:Int))::t)) (zN m bound k ((x1+(i:Int))::t)).length C a4 v')):=Zh (fun W A c hI e=>
        HIH.out W SB DB A (some ⟨bc,oc,none⟩) sc dc c cc (q+1) a4 _ v' (by have :=HQ.out;omega) (hF.ext e) hI (by rw [List.length_cons,HTL.out]) (zpi.out i hlt) (HK1.out i hlt) (hIw.ext e) (by omega) (by omega) (by omega))
       unfold JZ at HCN;have zpx:=Zh (HK4.out i);have zpO:=Zh (HK5.out i);have HSP:=Zh (fun T=>zoW (B:=T) HPR.out);have zqc:=Zh (HK6.out (i+1) (by omega));obtain ⟨t2,ht2⟩:∃t2,t2=(x1+(i:Int))::t:=⟨_,rfl⟩;rw [<-ht2] at HLG HCN zpx zpO;have HV':=Zh hv';clear hF hT hIw ht2 ha4 hv';generalize tE m bound k t2=T2 at*
       generalize (zN m bound k t2).length=L2 at*
       go_wp2_with fail
       go_region_held3 (fun w'=>w'.cell? ⟨w.heap.size,0,none⟩=some (.int .i64 n)/\w'.cell? ⟨w.heap.size,1,none⟩=some (.slice SB n sc)/\w'.cell? ⟨w.heap.size,2,none⟩=some (.slice DB (n+1) dc))
        (exact HFR.out _ Zi)
        (first
         |(go_at_call 109;refine (HLG.out _ Zi).mono ?_;rintro e w5 ⟨A5,c5,rfl,hI5,hs5⟩)
         |(go_at_call 69;refine (HCN.out _ _ _ hI5 Zi).mono ?_;rintro e w6 ⟨r6,v6,rfl,hd6,hs6⟩;have HD6:=Zh hd6;clear hd6))
       have zrV:Ext w1 w6:=hxr.trans Zi;rcases HD6.out with ⟨hp6,hr6,hv6⟩ |⟨hn6,hr6,hv6⟩
       ·obtain ⟨a5,ha5⟩:∃a5:Nat,a5=a4+T2.length:=⟨_,rfl⟩;rw [<-ha5] at hr6;subst hr6;have HV6:=Zh hv6;have HA5:=Zh ha5;have hd5:decide ((a5:Int)<0)=false:=by simp
        have hw3:IntKind.i64.wrap (x1+(i:Int)+1)=x1+((i+1:Nat):Int):=by rw [IntKind.wrap_i64];omega
        clear ha5 hv6 HD6;go_wp2_with fail
        refine ⟨⟨i+1,a5,v6,by omega,by first |rfl |(congr 1;omega),rfl,Zh ?_,rfl,?_,?_,zrV.trans Zi⟩,by simp [intOf]<;>omega⟩
        ·have h1:=HA5.out;have h2:=HA4.out;rw [zpx.out,List.length_append];omega
        ·have h1:=HV6.out;have h2:=HV'.out;have h3:=zpO.out;omega
        ·rw [zpx.out];refine (HSP.out T2).2 ?_;have h2:=HA4.out;rw [List.drop_drop,<-h2];exact hp6
       ·subst hr6 hv6;have HNO:Hid (¬(x1,x2)::rest<+:C.drop a):=Zh (fun h=>by
         have h1:=(HPE.out rest).1 h;obtain ⟨E,hE⟩:=zqc.out;rw [hE] at h1;have h2:=(List.prefix_append _ E).trans h1;rw [zpx.out] at h2;have h3:=(HSP.out T2).1 h2;have h4:=HA4.out;rw [List.drop_drop,<-h4] at h3;exact hn6 h3)
        clear HD6 hn6;go_wp2_with fail
        go_ret2
        exact ⟨_,_,rfl,.inr ⟨HNO.out,rfl,rfl⟩,(zqV.trans (zrV.trans Zi)).toStep⟩
      ·obtain rfl:i=J:=by omega
       have zqO:decide (x1+(i:Int)<=x2)=false:=by simp;omega
       have HV':=Zh hv';clear ha4 hv';go_wp2_with fail
       go_ret2
       refine ⟨_,_,rfl,.inl ⟨?_,?_,?_⟩,(zqV.trans (hxr.trans Zi)).toStep⟩
       ·rw [HPE.out,HRE.out];exact HPR.out
       ·have h1:=HA4.out;rw [HRE.out];omega
       ·have h1:=HV'.out;have h2:=HLV.out;rw [h2] at h1;exact h1
   ·have HNO:Hid (¬(lo,hi)::rest<+:C.drop a):=Zh (fun h=>by
     obtain ⟨h1,-⟩:=(HPC.out rest).1 h;injection h1 with h1 h2
     exact hxy ⟨h1.symm,h2.symm⟩)
    have hor:(x1==lo)=false∨((x1==lo)=true/\(x2==hi)=false):=by
     by_cases h1:x1=lo
     ·exact .inr ⟨by simp [h1],by simp;intro h2;exact hxy ⟨h1,h2⟩⟩
     ·exact .inl (by simp [h1])
    clear hxx HPC hxy;go_enter Tryz.func69,Tryz.ntmps69;go_upto_region 2 with (go_at_call 108;refine (HIV.out _ Zi).mono ?_;rintro e w1 ⟨rfl,hs1⟩)
    obtain ⟨bc,oc,rfl,f1,f2,f3⟩:=(HI.out.ext (Zi:Ext w w1)).at_ HXX.out;simp only at f1 f2;rcases hor with h1 |⟨h1,h2⟩
    ·go_wp2_with fail
     go_ret2
     exact ⟨_,_,rfl,.inr ⟨HNO.out,rfl,rfl⟩,Step.of _ _⟩
    ·go_wp2_with fail
     go_ret2
     exact ⟨_,_,rfl,.inr ⟨HNO.out,rfl,rfl⟩,Step.of _ _⟩
  ·have HNO:Hid (¬(lo,hi)::rest<+:C.drop a):=Zh (fun h=>by
    rw [List.drop_eq_nil_of_le (by omega)] at h;simp at h)
   have hdc:decide ((C.length:Int)<=(a:Int))=true:=by simp;omega
   go_enter Tryz.func69,Tryz.ntmps69;go_wp2_with (go_at_call 108;refine (HIV.out _ Zi).mono ?_;rintro e w1 ⟨rfl,hs1⟩)
   go_ret2
   exact ⟨_,_,rfl,.inr ⟨HNO.out,rfl,rfl⟩,Step.of _ _⟩
def zhI (w:World) (m:List (List Int)) (b:Int) (C:List (Int×Int)) (e:Ending) (w':World):Prop:=
 (C=z8 m b/\(zN m b (m.length-1) []).length<=8193/\∃B d L,e= .returned (.tuple #[.slice B (List.length L) d,.int .i64 0])/\Mat64 w' B L/\VecList m b false L/\Step w w')∨(C=z8 m b/\8193<(zN m b (m.length-1) []).length/\e= .returned (.tuple #[.slice none 0 0,.int .i64 7])/\Step w w')∨(C≠z8 m b/\e= .returned (.tuple #[.slice none 0 0,.int .i64 10])/\Step w w')
set_option maxRecDepth 20000 in
theorem zo0 {w0 w:World} {A B:Option Addr} {c d n k:Nat} {m:List (List Int)} {bound:Int} (hM:Mat64 w0 A m) (hL:LLLed m) (h1:m.length=n) (hb:bound<0) [hx:Ext w0 w]:
  Calls Tryz.prog 44 #[.slice A n c,.int .i64 bound,.slice B k d] w (zt w (.tuple #[.slice none 0 0,.int .i64 1])):=by
 have HA:=Zh (fun W (e:Ext w0 W)=>zov (w:=W) (c:=c) (most:=4611686018427387904) (budget:=0) hM hL h1 hb);clear hM hL h1;go_enter Tryz.func44,Tryz.ntmps44;go_wp2_with (go_at_call 61;refine (HA.out _ Zi).mono ?_;rintro e w1 ⟨rfl,hs1⟩)
 go_ret2
 exact ⟨rfl,Step.of _ _⟩
set_option maxRecDepth 20000 in
theorem zhJ {w0 w:World} {A B:Option Addr} {c d n:Nat} {m:List (List Int)} {bound:Int} {C:List (Int×Int)} (hM:Mat64 w0 A m) (hL:LLLed m) (h1:m.length=n) (hb:0<=bound) (hb1:bound<1073741824) (hI:IvV w0 B C) (hC:C.length<=1099511627776) [hx:Ext w0 w]:
  Calls Tryz.prog 44 #[.slice A n c,.int .i64 bound,.slice B C.length d] w (zhI w m bound C):=by
 have hr:=Zw hL.red;have hn8:=hL.len8;have hn1:=hL.len1;have HA:=Zh (fun W (e:Ext w0 W)=>zhz (w:=W) (c:=c) (most:=4611686018427387904) (budget:=0) hM hL h1 hb (by omega) (by omega) (by omega));have HOF:Hid (∀W,Ext w0 W->Calls Tryz.prog 62 #[.slice A n c] W (zaM W m n)):=Zh (fun W e=>zbH hM hL h1);have zqv:=Qa hr hb;have ht:z8 m bound=tE m bound (n-1) []:=by unfold z8;rw [h1]
 have HMT:Hid (∀(W:World) (SB DB:Option Addr) (sc dc:Nat),FrV W m SB DB->Ext w0 W->Calls Tryz.prog 69 #[.agg #[.int .i64 n,.slice SB n sc,.slice DB (n+1) dc],.int .i64 bound,.slice none 0 0,.slice B C.length d,.int .i64 0,.int .i64 0] W (JZ W (z8 m bound) (zN m bound (n-1) []).length C 0 0)):=Zh (fun W SB DB sc dc hF e=>by
  rw [ht];exact zoZ hL h1 hb hb1 hC (n-1) W SB DB none B sc dc 0 d 0 0 [] 0 (by omega) hF Ints.nil rfl (fun a ha=>by simp at ha) (by rw [h1] at zqv;exact zqv) (hI.ext e) (by omega) (by omega) (by omega))
 have HIT:Hid ((zN m bound (n-1) []).length<=8193->∀W,Ext w0 W->Calls Tryz.prog 54 #[.slice A n c,.int .i64 bound] W (zbP W (z6 m (zN m bound (n-1) [])))):=Zh (fun hq W e=>zoR hM hL h1 hb hb1 (by omega));obtain ⟨hvl,-⟩:=zg6 hr hb;rw [h1] at hvl;have HVL:=Zh hvl;have HIL:Hid ((zN m bound (n-1) []).length<=8193->(z6 m (zN m bound (n-1) [])).length<=1000000):=Zh (fun hq=>by
  have :=zhE m (zN m bound (n-1) []);omega)
 unfold zhI;rw [h1];generalize z6 m (zN m bound (n-1) [])=its at*
 generalize hLN:(zN m bound (n-1) []).length=ln at*
 generalize z8 m bound=T at*
 have hpc:∀(D:List (Int×Int)),T<+:D->T.length=D.length->D=T:=fun D h1 h2=>(h1.eq_of_length h2).symm
 have HPC:=Zh hpc;unfold JZ at HMT;unfold zbP at HIT;clear hM hL h1 hr zqv ht hvl hLN hpc hI hn8;simp only [List.drop_zero] at HMT;go_enter Tryz.func44,Tryz.ntmps44;go_upto_region 5 with (first
  |(go_at_call 61;refine (HA.out _ Zi).mono ?_;rintro e w1 ⟨rfl,hs1⟩)
  |(go_at_call 62;refine (HOF.out _ Zi).mono ?_;rintro e w2 ⟨SB,sc,DB,dc,rfl,hF,-,-,-,-,hs2⟩)
  |(go_at_call 69;refine (HMT.out _ _ _ _ _ hF Zi).mono ?_;rintro e w3 ⟨r,v,rfl,hd,hs3⟩;have HD:=Zh hd;clear hd hF))
 have hx3:Ext w w3:=Zi;rcases HD.out with ⟨hp,hr,hv⟩ |⟨hp,hr,hv⟩
 ·rw [Nat.zero_add] at hr;rw [Int.zero_add] at hv;subst hr;by_cases hl:T.length=C.length
  ·have hCT:=HPC.out C hp hl;have hle:((T.length:Int) !=(C.length:Int))=false:=by simp [hl]
   by_cases h8:ln<=8193
   ·have hve:v=(ln:Int):=by omega
    subst hve;have hd1:decide (8193<(ln:Int))=false:=by simp;omega
    have HI2:=Zh (HIT.out h8);have HI3:=Zh (HIL.out h8);have HCT:=Zh hCT;clear HIT HIL HMT HOF HA HD hp hCT hl hv;go_wp2_with (first
     |(go_at_call 54;refine (HI2.out _ Zi).mono ?_;rintro e w4 ⟨A2,c2,vs2,rfl,hO2,hV2,hs4⟩)
     |(go_at_call 53;refine (zoV hO2.arr hV2 HI3.out).mono ?_;unfold zcu;rintro e w5 ⟨A3,c3,rfl,hM3,h31,h32,hs5⟩))
    go_ret2
    exact .inl ⟨HCT.out,h8,A3,c3,its.map Prod.snd,by rw [List.length_map];rfl,hM3.ext Zi,HVL.out,Step.of _ _⟩
   ·have hd1:decide (8193<v)=true:=by simp;omega
    have HCT:=Zh hCT;clear HIT HIL HMT HOF HA HD hp hCT hl hv;go_wp2_with fail
    go_ret2
    exact .inr (.inl ⟨HCT.out,by omega,rfl,Step.of _ _⟩)
  ·have hle:((T.length:Int) !=(C.length:Int))=true:=by simp;omega
   have HNE:Hid (C≠T):=Zh (fun h=>hl (by rw [h]));clear HIT HIL HMT HOF HA HD hp hl hv;go_wp2_with fail
   go_ret2
   exact .inr (.inr ⟨HNE.out,rfl,Step.of _ _⟩)
 ·subst hr;have hle:((-1:Int) !=(C.length:Int))=true:=by simp
  have HNE:Hid (C≠T):=Zh (fun h=>hp (by rw [h];exact List.prefix_rfl));clear HIT HIL HMT HOF HA HD hp hv;go_wp2_with fail
  go_ret2
  exact .inr (.inr ⟨HNE.out,rfl,Step.of _ _⟩)
theorem zhK {w0 w:World} {A B:Option Addr} {c d b:Nat} {m:List (List Int)} {C:List (Int×Int)} (h:Mat64 w0 A m) (hc:m.length<=c) (hc2:c<=9223372036854775807) (hr:Ze m=true) (hb1:(b:Int)<1073741824) (hC:IvV w0 B C) (zqg:C.length<=1099511627776) [hx:Ext w0 w]:
  Calls Tryz.prog 42 #[.slice A m.length c,.int .i64 b,.slice B C.length d] w fun e w'=>if C=z8 m b then (if 4096<(ql m b false).length then zt w (.tuple #[.slice none 0 0,.int .i64 7]) e w' else zn4 w m b e w') else zt w (.tuple #[.slice none 0 0,.int .i64 10]) e w':=by
 have hR:=Zw hr;have hl:=ZJ hR.small;have hb0:(0:Int)<=b:=by omega
 have zsc:=zny hR hb0 hb1 C;have htl:=znD hR hb0;have htc:tC m b (m.length-1) [] []=(tV m b (m.length-1) []).take 4097:=by
  rw [znA _ _ _ _ _ (by simp),List.nil_append]
 rw [htc] at zsc;have hv:∀l,q9 m b C=some l->l.length<=4096->(∀x∈l,VecOK m x)/\(l.map zC).Nodup:=fun l hl h4=>by
  obtain ⟨-,rfl⟩:=(zsc l).1 hl;rw [List.length_take] at h4;rw [List.take_of_length_le (by omega)];refine ⟨fun x hx=>?_,by rw [zg0 hR hb0];exact (zgZ _ _ _).1⟩;obtain ⟨q1,q2,q3⟩:=(zbA hR hb0 x).1 hx;have q4:=zlN (zfS hR hb0 hb1 x q1 q3);refine ⟨by simp [jD,q1,q4],?_,?_⟩
  ·have :=zfR hR x q1;simp only [j7,decide_eq_true_eq];omega
  ·simp only [Q5,q4,Bool.true_and,Bool.not_eq_true',decide_eq_false_iff_not];omega
 refine (zcD (w:=w) (c:=c) (d:=d) h hc hc2 (zn5 hr hb0 hb1) hC zqg hv).mono ?_;intro e w' hp;by_cases hCt:C=z8 m b
 ·rw [if_pos hCt];rw [(zsc _).2 ⟨hCt,rfl⟩] at hp;simp only [List.length_take] at hp;by_cases h4:4096<(ql m b false).length
  ·rw [if_pos h4];rw [if_pos (by omega)] at hp;exact hp
  ·rw [if_neg h4];rw [if_neg (by omega)] at hp;rw [List.take_of_length_le (by omega)] at hp;obtain ⟨X,d2,L,he,hM,k1,k2,p1,p2,hs⟩:=hp;have hlL:=p1.length_eq;rw [List.length_map] at hlL;exact ⟨X,d2,L,he,hM,k1,k2,znC hR hb0 p1 p2,by omega,hs⟩
 ·rw [if_neg hCt];have :q9 m b C=none:=by
   cases hT:q9 m b C with
   |none=>rfl
   |some l=>exact absurd ((zsc l).1 hT).1 hCt
  rw [this] at hp;exact hp
theorem zo1 {m:List (List Int)} (h:Ze m=true) {b:Nat} (h4:m.length<=4) (hb:b+2*m.length<=13):Z0 m b<=8000:=by
 have hl:=ZJ (Zw h).small;have hc:=(zbn h (b:=b) (by omega)).2;have key:∀n,n<4->∀b,b<12->b+2*(n+1)<=13->Qb b n<=8000/\zk b<=3000:=by decide+kernel
 have :=key (m.length-1) (by omega) b (by omega) (by omega);rcases hc with h |h<;>omega
theorem zo2 {w0 w:World} {A B:Option Addr} {c d k:Nat} {m:List (List Int)} {bound:Int} (h:Mat64 w0 A m) (hc:m.length<=c) (hc2:c<=9223372036854775807) (hr:Ze m=true) (hb:bound<0) [hx:Ext w0 w]:
  Calls Tryz.prog 42 #[.slice A m.length c,.int .i64 bound,.slice B k d] w (zt w (.tuple #[.slice none 0 0,.int .i64 1])):=by
 have hl:=ZJ (Zw hr).small;have zqo:=fun W (hh:Ext w0 W)=>zad (w:=W) h (by omega) hc hc2
 rw [hr] at zqo;have zpp:=Zh zqo;have db0:decide (bound<0)=true:=by simpa using hb
 clear zqo;go_enter Tryz.func42,Tryz.ntmps42;go_wp2_with (go_at_call 66;refine (zpp.out _ Zi).mono ?_;rintro e w1 ⟨rfl,hs1⟩)
 go_ret2
 exact ⟨rfl,Step.of _ _⟩
def zdM (w:World) (L:List (List Int)) (er:Int) (e:Ending) (w':World):Prop:=∃X q,e= .returned (.tuple #[.slice X (List.length L) q,.int .i64 er])/\Mat64 w' X L/\Step w w'
theorem zo3 {W:World} {A B:Option Addr} {m:List (List Int)} {n c d k:Nat} {C:List (Int×Int)} {bd:Int} (hM:Mat64 W A m) (hL:LLLed m) (h1:m.length=n) (h4:n<=4) (hc:n<=c) (hc2:c<=9223372036854775807) (hbd:bd=-1∨(0<=bd/\bd+2*n<=13)) (hI:IvV W B C) (hk:C.length=k) (hk2:k<=20000):
  ∃(L:List (List Int)) (er:Int),L.length<=8000/\(∀r∈L,r.length=n)/\∀W',Ext W W'->Calls Tryz.prog 42 #[.slice A n c,.int .i64 bd,.slice B k d] W' (zdM W' L er)/\Calls Tryz.prog 44 #[.slice A n c,.int .i64 bd,.slice B k d] W' (zdM W' L er):=by
 have zqo:=hL.red;have hR:=Zw zqo;have hn1:=hL.len1;subst hk h1;rcases hbd with rfl |⟨hb0,hb1⟩
 ·refine ⟨[],1,by simp,fun r hr=>by simp at hr,fun W' e=>⟨?_,?_⟩⟩
  ·refine (zo2 (w:=W') hM hc hc2 zqo (by omega)).mono ?_;rintro e' w' ⟨rfl,hs⟩;exact ⟨none,0,rfl,zbQ _,hs⟩
  ·refine (zo0 (w:=W') hM hL rfl (by omega)).mono ?_;rintro e' w' ⟨rfl,hs⟩;exact ⟨none,0,rfl,zbQ _,hs⟩
 ·obtain ⟨b,rfl⟩:∃b:Nat,bd=b:=⟨bd.toNat,by omega⟩;have zvf:=zo1 zqo (b:=b) h4 (by omega);have hst:=(zbn zqo (b:=b) (by omega)).1;have zqI:=hst.last_le (by omega);have zwb:=hst.last;have hlv:=zoM zqo (b:=b) (by omega);have hit:=zg6 hR hb0;obtain ⟨L,hLL⟩:∃L,L=(z6 m (zN m b (m.length-1) [])).map Prod.snd:=⟨_,rfl⟩;have hv:=hit.1;rw [<-hLL] at hv;have zqg:=znO hR hb0 hv;by_cases hC:C=z8 m b
  ·refine ⟨L,0,by omega,hv.rows,fun W' e=>⟨?_,?_⟩⟩
   ·refine (zhK (w:=W') (c:=c) (d:=d) (b:=b) hM hc hc2 zqo (by omega) hI (by omega)).mono ?_;intro e' w' hp;simp only [if_pos hC] at hp;rw [if_neg (by omega)] at hp;obtain ⟨X,q,L',rfl,hX,-,-,hV,-,hs⟩:=hp;obtain rfl:=VecList.unique hV hv;exact ⟨X,q,rfl,hX,hs⟩
   ·refine (zhJ (w:=W') (c:=c) (d:=d) hM hL rfl hb0 (by omega) hI (by omega)).mono ?_;rintro e' w' (⟨-,-,X,q,L',rfl,hX,hV,hs⟩ |⟨-,h8,-⟩ |⟨hne,-⟩)
    ·obtain rfl:=VecList.unique hV hv;exact ⟨X,q,rfl,hX,hs⟩
    ·omega
    ·exact absurd hC hne
  ·refine ⟨[],10,by simp,fun r hr=>by simp at hr,fun W' e=>⟨?_,?_⟩⟩
   ·refine (zhK (w:=W') (c:=c) (d:=d) (b:=b) hM hc hc2 zqo (by omega) hI (by omega)).mono ?_;intro e' w' hp;simp only [if_neg hC] at hp;obtain ⟨rfl,hs⟩:=hp;exact ⟨none,0,rfl,zbQ _,hs⟩
   ·refine (zhJ (w:=W') (c:=c) (d:=d) hM hL rfl hb0 (by omega) hI (by omega)).mono ?_;rintro e' w' (⟨he,-⟩ |⟨he,-⟩ |⟨-,rfl,hs⟩)
    ·exact absurd he hC
    ·exact absurd he hC
    ·exact ⟨none,0,rfl,zbQ _,hs⟩
end Go.Proofs.YtjehjkipcaohpaaGreat
namespace Go.Proofs.YtjehjkipcaohpaaGreat
open Go.RowKit
open La
set_option linter.constructorNameAsVariable false
theorem zhL {a b:Int} (h0:0<a) (h:a<b):a*a<b*b:=Int.mul_lt_mul h (by omega) (by omega) (by omega)
theorem zo4 (k hi:Int):zV (za m1 1) (zd m1 1) 0 [0] [0,k*k*1] hi=⟨1,0,k*k,hi⟩:=by
 rw [za8,zcw];unfold zV;simp [vD,zy]
theorem zbR (k x:Int):zS 1 0 (k*k) x=!decide (k*k<x*x):=by
 unfold zS zG;simp
theorem zo5 (w:World) (s:Nat) (hs:w.heap.size=s) (a b:Int) (h1:-9223372036854775808<=a/\a<=9223372036854775807) (h2:-9223372036854775808<=b/\b<=9223372036854775807):IvV (w.alloc (.cells #[.int .i64 a,.int .i64 b] 64)) (some ⟨s,0,none⟩) [(a,b)]:=by
 subst hs;exact zno w a b h1 h2
theorem zo6 (w:World) (a:Int):Mat64 ((w.alloc (.cells #[.int .i64 a] 2)).alloc (.cells #[.slice (some ⟨w.heap.size,0,none⟩) 1 1] 37)) (some ⟨w.heap.size+1,0,none⟩) [[a]]:=by
 have h1:Ints (w.alloc (.cells #[.int .i64 a] 2)) (some ⟨w.heap.size,0,none⟩) 2 .i64 [a]:=Arr.new w 2 #[.int .i64 a];have h2:=Arr.new (w.alloc (.cells #[.int .i64 a] 2)) 37 #[.slice (some ⟨w.heap.size,0,none⟩) 1 1];rw [World.size_alloc] at h2;refine ⟨_,rfl,h2,fun i r hr=>?_⟩;match i with
 |0=>obtain rfl:[a]=r:=by simpa using hr
     exact ⟨_,1,rfl,h1.ext Zi,by simp,by omega⟩
 |i+1=>simp at hr
theorem zo7 (k:Nat) (h1:1<=k) (hk:k<=2147483648):ZH 1 0 ((k:Int)*k) (-(k:Int)) k=true:=by
 have a1:zS 1 0 ((k:Int)*k) (-(k:Int)-1)=false:=by
  rw [zbR];have :=zhL (a:=(k:Int)) (b:=(k:Int)+1) (by omega) (by omega);have e:(-(k:Int)-1)*(-(k:Int)-1)=((k:Int)+1)*((k:Int)+1):=by rw [show-(k:Int)-1=-((k:Int)+1) by omega,Int.neg_mul_neg]
  simp [e,this]
 have a2:zS 1 0 ((k:Int)*k) ((k:Int)+1)=false:=by
  rw [zbR];have :=zhL (a:=(k:Int)) (b:=(k:Int)+1) (by omega) (by omega);simp [this]
 have a3:zS 1 0 ((k:Int)*k) (-(k:Int))=true:=by rw [zbR,Int.neg_mul_neg];simp
 have a4:zS 1 0 ((k:Int)*k) (k:Int)=true:=by rw [zbR];simp
 rw [ZH,if_neg (by omega),a1,a2,if_neg (by simp),if_pos (by omega),a3,a4];rfl
theorem zo8 (k:Nat) (h1:1<=k) (hk:k<=2147483648):q9 m1 ((k:Int)*k) [(-(k:Int),(k:Int))]=some (zZ [] 1 (min k 4097)):=by
 have hD:vD (za m1 1) 1=1:=by rw [za8];rfl
 have hl:m1.length=1:=rfl;unfold q9;rw [hl,hD];show ZR (za m1 1) (zd m1 1) 1 [(-(k:Int),(k:Int))] 0 [0] [0,(k:Int)*k*1] [Qg] []=_;rw [ZR];simp only [zo4];rw [zo7 k h1 hk,if_pos rfl,if_neg (by omega),zcC (by omega)];simp only [Qu,if_true,List.tail_cons,List.length_nil,List.nil_append];have hc:ZQ [] (-(k:Int))=1:=by rw [ZQ,if_neg (by simp [zq])];omega
 rw [hc,zO,show ((k:Int)-1+1).toNat=k by omega]
theorem zo9 {w0 w:World} {A B:Option Addr} {d:Nat} (k:Nat) (h1:4097<=k) (hk:k<=2147483648) (h:Mat64 w0 A m1) (hC:IvV w0 B [(-(k:Int),(k:Int))]) [hx:Ext w0 w]:
  Calls Tryz.prog 42 #[.slice A 1 1,.int .i64 ((k:Int)*k),.slice B 1 d] w (zt w (.tuple #[.slice none 0 0,.int .i64 7])):=by
 have hkk:0<=(k:Int)*k/\(k:Int)*k<=4611686018427387904:=by
  have h1:(k:Int)*k<=2147483648*2147483648:=Int.mul_le_mul (by omega) (by omega) (by omega) (by omega);have h0:0<=(k:Int)*k:=Int.mul_nonneg (by omega) (by omega);omega
 have hr:=zo8 k (by omega) hk;rw [show min k 4097=4097 by omega] at hr;have hv:∀l,q9 m1 ((k:Int)*k) [(-(k:Int),(k:Int))]=some l->l.length<=4096->(∀x∈l,VecOK m1 x)/\(l.map zC).Nodup:=fun l hl hll=>by
  rw [hr] at hl;injection hl with hl
  subst hl;rw [jp] at hll;omega
 have hl1:m1.length=1:=rfl;have :=zcD (w:=w) (c:=1) (d:=d) h (by omega) (by omega) (zng _ hkk.1 hkk.2) hC (by simp) hv;rw [hr] at this;refine this.mono ?_;intro e w' hp;simp only at hp;rw [if_pos (by rw [jp];omega)] at hp;exact hp
theorem zpa {w0 w:World} {A B:Option Addr} {d:Nat} (h:Mat64 w0 A m1) (hC:IvV w0 B [(-2147483648,2147483648)]) [hx:Ext w0 w]:
  Calls Tryz.prog 42 #[.slice A 1 1,.int .i64 4611686018427387904,.slice B 1 d] w (zt w (.tuple #[.slice none 0 0,.int .i64 7])):=by
 have :=zo9 (w:=w) (d:=d) 2147483648 (by omega) (by omega) h hC;rw [show ((2147483648:Nat):Int)*((2147483648:Nat):Int)=4611686018427387904 by decide] at this;exact this
set_option maxRecDepth 20000 in
theorem zpb {w:World} {dim kind bound at_ lo hi:Int} {NA:Option Addr} {l:List Int} {nc:Nat} {v3:Value} {te:TypeId} (hN:Ints w NA te .i8 l) (h8:I8 l) (hl:l.length<=9223372036854775807) (hd0:0<=dim) (hd1:dim<256) (hk0:0<=kind) (hk1:kind<256) (hb0:0<=bound) (hb1:bound<256) (ha0:0<=at_) (ha1:at_<256) (hlo:-9223372036854775808<=lo) (zum:lo<9223372036854775808) (hhi:-9223372036854775808<=hi) (zun:hi<9223372036854775808):
  Calls Tryz.prog 18 #[.agg #[.int .u8 dim,.int .u8 kind,.slice NA l.length nc,v3],.int .u8 bound,.int .u8 at_,.int .i64 lo,.int .i64 hi] w (zt w (.bool true)):=by
 have HG:Hid (∀W,Ext w W->Calls Tryz.prog 40 #[.agg #[.int .u8 dim,.int .u8 kind,.slice NA l.length nc,v3],.int .u8 bound] W (zdz W (1+(dim%4).toNat) bound)):=Zh (fun W e=>zn6 (hN.ext e) h8 hl hd0 hd1 hk0 hk1 hb0 hb1);have hn1:1<=1+(dim%4).toNat:=by omega
 have hn4:1+(dim%4).toNat<=4:=by omega
 clear hN h8;generalize 1+(dim%4).toNat=n at*
 have e6:=Int.emod_nonneg bound (show 13-2*(n:Int)≠0 by omega);have e7:=Int.emod_lt_of_pos bound (show 0<13-2*(n:Int) by omega);unfold zdz at HG;obtain ⟨b,hb⟩:∃b:Nat,bound%(13-2*(n:Int))=b:=⟨(bound%(13-2*(n:Int))).toNat,by omega⟩;rw [hb] at HG e6 e7;have HE:Hid (∀(m:List (List Int)) (W0 W:World) A c,LLLed m->m.length=n->Mat64 W0 A m->Ext W0 W->Calls Tryz.prog 41 #[.slice A n c,.int .i64 b,.int .i64 20000] W (fun e w'=>∃B d,e= .returned (.tuple #[.slice B (z8 m b).length d,.int .i64 0])/\Own w' W0.heap.size 64 2 B (z8 m b).length d (Zs (z8 m b))/\Step W w')):=Zh (fun m W0 W A c hL hmn hM e=>by
  have zvf:=zhb hL.red (b:=b) (by omega) (by omega);refine (zoA (w:=W) (c:=c) hM hL hmn (by omega) (by omega) (by omega) (by omega)).mono ?_;rintro e' w' (⟨-,B,d,rfl,hO,hs⟩ |⟨zqL,-⟩)
  ·exact ⟨B,d,rfl,hO.lower e.size,hs⟩
  ·exact absurd zqL (by omega))
 have hwa:IntKind.i64.wrap at_=at_:=IntWalk.i64_in _ (by omega);clear hb;go_enter Tryz.func18,Tryz.ntmps18;go_upto_region 3 with (first
  |(go_at_call 40;refine (HG.out _ Zi).mono ?_;rintro e w1 ⟨g,m,A1,c1,rfl,-,hLL,zqg,-,hM1,hc1,hc2,hs1⟩;have HM:=Zh hM1;have HR:=Zh hLL;clear hM1 hLL)
  |(go_at_call 41;refine (HE.out _ _ _ _ _ HR.out zqg HM.out Zi).mono ?_;rintro e w2 ⟨B2,d2,rfl,hO2,hs2⟩))
 have htf:=zn8 HR.out.red (b:=b) (by omega) (by omega);have htn:=zn7 m b;have htb:=znG (Zw HR.out.red) (b:=(b:Int)) (by omega) (by omega);obtain ⟨T,hT⟩:∃T,T=z8 m b:=⟨_,rfl⟩;rw [<-hT] at htf htn htb hO2 |-
 obtain ⟨tl,htl⟩:∃tl,T.length=tl:=⟨_,rfl⟩;rw [htl] at htf htn hO2 |-
 obtain ⟨g,rfl,hg1,hg2,hIB⟩:=hO2.ivB htl (by omega);have hng:New g w1:=⟨hg1⟩;obtain ⟨i,hi1⟩:∃i:Nat,at_%(tl:Int)=i:=⟨(at_%(tl:Int)).toNat,by have :=Int.emod_nonneg at_ (show (tl:Int)≠0 by omega);omega⟩;have hil:i<tl:=by have :=Int.emod_lt_of_pos at_ (show (0:Int)<(tl:Int) by omega);omega
 have htm:at_.tmod (tl:Int)=(i:Int):=by rw [Int.tmod_eq_emod_of_nonneg ha0,hi1]
 have htz:((tl:Int)==0)=false:=by simp;omega
 obtain ⟨p,hp⟩:∃p,T[i]? =some p:=⟨_,List.getElem?_eq_getElem (by omega)⟩;obtain ⟨c0,c1',f0,f1⟩:=hIB.cells hp;have hI3:=hIB.set i (lo,hi);obtain ⟨w3,hw3⟩:∃w3,w3=(w2.setCell ⟨g,i*2,none⟩ (.int .i64 lo)).setCell ⟨g,i*2+1,none⟩ (.int .i64 hi):=⟨_,rfl⟩;have hx3:Ext w1 w3:=by rw [hw3];exact Zi
 have hI3':IvBk w3 g (T.set i (lo,hi)):=by rw [hw3];exact hI3
 have hV3:=hI3'.toV (zoU (fun q hq=>by have :=htb q hq;omega) ⟨by omega,by omega,by omega,by omega⟩);obtain ⟨L,er,hL8,hLr,ztS⟩:=zo3 (W:=w3) (c:=c1) (d:=d2) (k:=tl) (bd:=(b:Int)) (HM.out.ext hx3) HR.out zqg hn4 hc1 hc2 (.inr ⟨by omega,by omega⟩) hV3 (by rw [List.length_set];exact htl) (by omega);have HVR:=Zh ztS;have HLR:=Zh hLr;clear hI3 hI3' hIB hO2 htb hT ztS hLr hV3 hp HE HG HM HR;unfold zdM at HVR
 have HSM:Hid (∀(W1 W2 W:World) X Y (c d:Nat),Mat64 W1 X L->Mat64 W2 Y L->Ext W1 W->Ext W2 W->Calls Tryz.prog 25 #[.slice X L.length c,.slice Y L.length d] W (jo W (.bool true))):=Zh (fun W1 W2 W X Y c d hX hY e1 e2=>by
  have h:=ze8 (w:=W) (c:=c) (d:=d) (hX.ext e1) (hY.ext e2) (by omega) (by omega) (fun r hr=>by rw [HLR.out r hr];omega) (fun r hr=>by rw [HLR.out r hr];omega);rwa [decide_eq_true rfl] at h)
 have ztG:Ext w w3:=(Zi:Ext w w1).trans hx3;go_upto_region 5 with fail
 rw [<-hw3];clear hw3 c0 c1' f0 f1;have HWD:Hid (∀(W0 W:World) A B dd,Mat64 W0 A m1->IvV W0 B [(-2147483648,2147483648)]->Ext W0 W->Calls Tryz.prog 42 #[.slice A 1 1,.int .i64 4611686018427387904,.slice B 1 dd] W (zt W (.tuple #[.slice none 0 0,.int .i64 7]))):=Zh (fun W0 W A B dd h1 h2 e=>zpa (w:=W) h1 h2);go_upto_region 7 with (first
  |(go_at_call 42;refine (HVR.out _ Zi).1.mono ?_;rintro e w4 ⟨X4,q4,rfl,hM4,hs4⟩;have HM4:=Zh hM4;clear hM4)
  |(go_at_call 44;refine (HVR.out _ Zi).2.mono ?_;rintro e w5 ⟨X5,q5,rfl,hM5,hs5⟩;have HM5:=Zh hM5;clear hM5))
 have zwc:Ext w w5:=ztG.trans Zi;have hee:(er==er)=true:=by simp
 clear HVR;go_wp2_with (first
  |(go_at_call 42;refine (HWD.out _ _ _ _ _ ((zo6 w5 1).ext Zi) (zo5 _ (w5.heap.size+1+1) Sz.eq _ _ (by omega) (by omega)) (Ext.refl _)).mono ?_;rintro e w6 ⟨rfl,hs6⟩)
  |(go_at_call 25;refine (HSM.out _ _ _ _ _ _ _ HM4.out HM5.out Zi Zi).mono ?_;rintro e w7 ⟨rfl,nq,rfl⟩)
  |(go_at_call 43;refine znq.mono ?_;rintro e w8 ⟨rfl,hs8⟩))
 go_ret;exact ⟨rfl,Step.of _ _⟩
end Go.Proofs.YtjehjkipcaohpaaGreat

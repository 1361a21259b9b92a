import Derived.Test.YtgoaelchibpffaaGreatT03
import Derived.Deep.DeepCutAuto
set_option maxHeartbeats 8000000
set_option linter.unusedVariables false
set_option linter.unusedSimpArgs false
namespace Go.Proofs.YtgoaelchibpffaaGreat
open Go.RowKit
variable {cs:Array Value} {na:Bool} {b d x zd:Int} {h m:List (List Int)} {G L c cols i j k n pb ze:Nat} {fr:Nat×Nat} {A B:Option Addr} {e:TypeId} {w w' w0:World}
def HeadsT(w:World)(G E:Nat)(zc cols k:Nat):Prop:=
 ∃hd:List Value,VRow w G 95 hd/\hd.length=zc/\(∀i,i<k->hd[i]? =some (.slice (some ⟨E,i*cols*2,none⟩) cols cols))/\∀i,k<=i->i<zc->hd[i]? =some (.slice none 0 0)
theorem HeadsT.made(w:World)(E zc cols:Nat):HeadsT (w.alloc (.cells (zH #[.slice none 0 0] (zc*1)) 95)) w.heap.size E zc cols 0:=by
 refine⟨_,VRow.new w _ _,?_,fun i hi=>absurd hi aa,fun i _ hi=>?_⟩
 ·rw[JP];omega
 ·rw[Qo,Nat.mul_one,List.getElem?_replicate];simp[hi]
theorem HeadsT.cell{E zc:Nat}(h:HeadsT w G E zc cols k)(hk:k<zc):w.cell? ⟨G,k,none⟩=some (.slice none 0 0)/\w.frozen? ⟨G,k,none⟩=false/\G<w.heap.size:=by
 obtain⟨hd,h1,h2,h3,h4⟩:=h;exact⟨h1.cell (h4 k Zr hk),h1.frozen _,h1.lt⟩
theorem HeadsT.put{E zc:Nat}(h:HeadsT w G E zc cols k)(hk:k<zc):HeadsT (w.setCell ⟨G,k,none⟩ (.slice (some ⟨E,k*cols*2,none⟩) cols cols)) G E zc cols (k+1):=by
 obtain⟨hd,h1,h2,h3,h4⟩:=h;refine⟨_,h1.set k _,by simp[h2],fun i hi=>?_,fun i hi1 hi2=>?_⟩
 ·rcases Zl i k with h|h
  ·rw[List.getElem?_set_ne aa];exact h3 i h
  ·obtain rfl:i=k:=aa
   rw[List.getElem?_set_self aa]
 ·rw[List.getElem?_set_ne aa];exact h4 i aa hi2
theorem HeadsT.row{E zc:Nat}(h:HeadsT w G E zc cols (k+1)):w.cell? ⟨G,k,none⟩=some (.slice (some ⟨E,k*cols*2,none⟩) cols cols):=by
 obtain⟨hd,h1,h2,h3,h4⟩:=h;exact h1.cell (h3 k (Nat.lt_succ_self k))
theorem HeadsT.rowM{E zc m:Nat}(h:HeadsT w G E zc cols (k+1))(hm:m=k*cols):w.cell? ⟨G,k,none⟩=some (.slice (some ⟨E,m*2,none⟩) cols cols):=by rw[hm];exact h.row
theorem HeadsT.ext{E zc:Nat}(h:HeadsT w G E zc cols k)(hx:Ext w w'):HeadsT w' G E zc cols k:=by
 obtain⟨hd,h1,h2⟩:=h;exact⟨hd,h1.ext hx,h2⟩
theorem HeadsT.far{E zc:Nat}(h:HeadsT w G E zc cols k){p:Addr}(hp:G≠p.block)(u:Value):HeadsT (w.setCell p u) G E zc cols k:=by
 obtain⟨hd,h1,h2⟩:=h;exact⟨hd,h1.far hp u,h2⟩
theorem HeadsT.heap{E zc:Nat}(h:HeadsT w G E zc cols k):∃cs,w.heap[G]? =some (.cells cs 95 (0,0)):=by
 obtain⟨hd,h1,h2⟩:=h;exact⟨_,h1⟩
theorem Cells2.part{g:Nat}{F:Nat->Int}{N:Nat}(h:Cells2 w g F N N)(a n:Nat)(ha:a+n<=N):IntsV w (some ⟨g,a*2,none⟩) ((List.range n).map fun j=>F (a+j)):=by
 obtain⟨cs,h1,h2,h3,h4⟩:=h;refine⟨(cs.drop (a*2)).take (n*2),by simp;omega,fun h0=>?_,fun i z hz=>?_⟩
 ·refine⟨g,a*2,cs.toArray,(0,0),rfl,h1,fun j u hu=>?_⟩;rw[List.getElem?_take]at hu;split at hu
  ·rw[List.getElem?_drop]at hu;simpa using hu
  ·cases hu
 ·have hi:i<n:=by
   rcases Zl i n with hi|hi
   ·exact hi
   ·rw[List.getElem?_eq_none (by simpa using hi)]at hz;cases hz
  simp[hi]at hz;subst hz;obtain⟨s,B,m,c,a1,a2,a3⟩:=h3 (a+i) aa;refine⟨s,B,m,c,?_,?_,a3⟩
  ·rw[List.getElem?_take,if_pos aa,List.getElem?_drop,<-Nat.add_mul];exact a1
  ·rw[List.getElem?_take,if_pos aa,List.getElem?_drop,<-Nat.add_assoc,<-Nat.add_mul];exact a2
theorem zfz(F:Nat->Nat->Int)(k q cols:Nat)(hq:q<cols):F ((k*cols+q) / cols) ((k*cols+q)%cols)=F k q:=by
 rw[Nat.mul_comm,Nat.mul_add_div aa,Nat.div_eq_of_lt hq,Nat.mul_add_mod,Nat.mod_eq_of_lt hq,Nat.add_zero]
def zkH(X:Nat->Prop)(w:World)(A:Option Addr)(zs:List Int):Prop:=IntsV w A zs/\(0<zs.length->∃b o,A=some ⟨b,o,none⟩/\X b)
def MatX(X:Nat->Prop)(w:World)(A:Option Addr)(m:List (List Int)):Prop:=
 ∃vs:List Value,vs.length=m.length/\Arr w A 95 vs/\∀(i:Nat)(r:List Int),m[i]? =some r->∃B c,vs[i]? =some (.slice B r.length c)/\zkH X w B r/\r.length<=c/\c<=9223372036854775807
theorem MatX.mat{X:Nat->Prop}(h:MatX X w A m):MatV w A m:=by
 obtain⟨vs,h1,h2,h3⟩:=h;refine⟨vs,h1,h2,fun i r hr=>?_⟩;obtain⟨B,c,a1,a2,a3⟩:=h3 i r hr;exact⟨B,c,a1,a2.1,a3⟩
theorem MatX.mono{X Y:Nat->Prop}(h:MatX X w A m)(hxy:∀b,X b->Y b):MatX Y w A m:=by
 obtain⟨vs,h1,h2,h3⟩:=h;refine⟨vs,h1,h2,fun i r hr=>?_⟩;obtain⟨B,c,a1,a2,a3⟩:=h3 i r hr;refine⟨B,c,a1,⟨a2.1,fun h0=>?_⟩,a3⟩;obtain⟨b,o,e,hx⟩:=a2.2 h0;exact⟨b,o,e,hxy b hx⟩
theorem MatV.old(h:MatV w A m):MatX (·<w.heap.size) w A m:=by
 obtain⟨vs,h1,h2,h3⟩:=h;refine⟨vs,h1,h2,fun i r hr=>?_⟩;obtain⟨B,c,a1,a2,a3⟩:=h3 i r hr;refine⟨B,c,a1,⟨a2,fun h0=>?_⟩,a3⟩;obtain⟨b,o,g,B',n,c',e,_,_,_,hb⟩:=a2.at_ h0;exact⟨b,o,e,hb⟩
theorem MatX.ext{X:Nat->Prop}(h:MatX X w A m)(hx:Ext w w'):MatX X w' A m:=by
 obtain⟨vs,h1,h2,h3⟩:=h;refine⟨vs,h1,h2.ext hx,fun i r hr=>?_⟩;obtain⟨B,c,a1,a2,a3⟩:=h3 i r hr;exact⟨B,c,a1,⟨a2.1.ext hx,a2.2⟩,a3⟩
theorem MatX.grow{X:Nat->Prop}(h:MatX X w A m)(hg:Grow ze e w w')(h0:95≠e)(h1:102≠e)(h2:212≠e):MatX X w' A m:=by
 obtain⟨vs,a1,a2,a3⟩:=h;refine⟨vs,a1,a2.grow hg h0,fun i r hr=>?_⟩;obtain⟨B,c,b1,b2,b3⟩:=a3 i r hr;exact⟨B,c,b1,⟨b2.1.grow hg h1 h2,b2.2⟩,b3⟩
theorem MatX.setBox(h:MatX (·≠L) w A m)(hL:w.heap[L]? =some (.cells cs 102 fr))(i:Nat)(u:Value):MatX (·≠L) (w.setCell ⟨L,i,none⟩ u) A m:=by
 obtain⟨vs,a1,a2,a3⟩:=h;refine⟨vs,a1,a2.setCell (p:=⟨L,i,none⟩) hL ac u,fun k r hr=>?_⟩;obtain⟨B,c,b1,b2,b3⟩:=a3 k r hr;refine⟨B,c,b1,⟨?_,b2.2⟩,b3⟩;obtain⟨ws,c1,c2,c3⟩:=b2.1;refine⟨ws,c1,fun h0=>?_,fun j z hz=>?_⟩
 ·have zsC:0<r.length:=aa
  obtain⟨b,o,hB,hne⟩:=b2.2 zsC;obtain⟨b',o',cs',fr',hB',hh,hc⟩:=c2 h0;rw[hB]at hB';injection hB' with hB'
  injection hB' with e1 e2
  subst e1 e2;exact⟨b,o,cs',fr',hB,(Below.heap_setCell w ⟨L,i,none⟩ u b hne).trans hh,hc⟩
 ·obtain⟨g,B',n,c',d1,d2,d3⟩:=c3 j z hz;exact⟨g,B',n,c',d1,d2,d3.setCell (p:=⟨L,i,none⟩) hL ac u⟩
def zkI(w:World)(m:List (List Int))(e:Ending)(w':World):Prop:=∃A c,e= .returned (.slice A m.length c)/\MatX (w.heap.size<=·) w' A m/\m.length<=c/\c<=9223372036854775807/\Step w w'
set_option maxRecDepth 10000 in
theorem zfA(f:FuncId)(caps:Array Value)(zc cols:Nat)(h1:zc<=1000)(h2:cols<=1000)(hc:1<=cols)(hf:qB f)(F:Nat->Nat->Int)
  (H:∀(i j:Nat)(W:World),i<zc->j<cols->Ext w W->Cq f (#[.int .i64 i,.int .i64 j]++caps) W (zz W (F i j))):
  Cq 292 #[.int .i64 zc,.int .i64 cols,.func (.func f) #[] caps] w (zkI w (tab F zc cols)):=by
 have hp1:zc*cols<=1000000:=Nat.mul_le_mul h1 h2;obtain⟨N,hN⟩:=Xz (zc*cols);have hp2:(zc:Int)*(cols:Int)=(N:Int):=by rw[hN];simp
 rw[<-hN]at hp1;have hmk:=ZH (P:=Tryz.prog) Tryz.underlying95 j3 aa (N:Int) aa aa;have zs0:=ZH (P:=Tryz.prog) Tryz.underlying48 zad aa (zc:Int) aa aa;have HH:=Zh H;have HF:=Zh hf;have HN:=Zh hN;clear H hf hN;obtain⟨L,hL⟩:∃L:Nat->Int,L=fun t=>F (t / cols) (t%cols):=⟨_,rfl⟩
 have HL:=Zh hL;clear hL;go_enter Tryz.func292,Tryz.ntmps292;go_wp2;go_loopw [9,10,19] (fun _ _ i wr=>∃k:Nat,k<=zc/\i= .int .i64 k/\Cells2 wr w.heap.size L N (k*cols)/\HeadsT wr (w.heap.size+1) w.heap.size zc cols k/\Ext w wr) (fun _ _ i _=>zc-(intOf i).toNat)
 case atStart=>
  refine⟨0,aa,rfl,?_,?_,Zi⟩
  ·have:=(Cells2.made w L N).ext (Zi:Ext _ ((w.alloc (.cells (zH #[.bool false,.slice none 0 0] (N*2)) 102)).alloc (.cells (zH #[.slice none 0 0] (zc*1)) 95)));simpa[Value.cells] using this
  ·have:=HeadsT.made (w.alloc (.cells (zH #[.bool false,.slice none 0 0] (N*2)) 102)) w.heap.size zc cols;simpa[Value.cells] using this
 case round=>
  obtain⟨k,hk,rfl,hC,hH,hxr⟩:=hrel;by_cases zsM:k<zc
  ·obtain⟨m,hm⟩:=Xz (k*cols);have hm1:(k:Int)*(cols:Int)=(m:Int):=by rw[hm];simp
   have hm2:((k:Int)+1)*(cols:Int)=(m:Int)+(cols:Int):=by rw[Int.add_mul,hm1];omega
   have hm3:m+cols<=N:=by rw[hm,HN.out,<-Nat.succ_mul];exact Nat.mul_le_mul_right _ zsM
   have HM:=Zh hm;rw[<-hm]at hC;clear hm;obtain⟨hc1,hc2,hsz⟩:=hH.cell zsM;have hH':=hH.put zsM;rw[<-HM.out]at hH';have hC':Cells2 (wr.setCell ⟨w.heap.size+1,k,none⟩ (.slice (some ⟨w.heap.size,m*2,none⟩) cols cols)) w.heap.size L N m:=by
    obtain⟨cs,hcs⟩:=hH.heap;exact hC.far (p:=⟨w.heap.size+1,k,none⟩) hcs ac ac _
   have hx':Ext w (wr.setCell ⟨w.heap.size+1,k,none⟩ (.slice (some ⟨w.heap.size,m*2,none⟩) cols cols)):=Zi;go_wp2;simp only[Nat.add_sub_cancel_left];go_loopw [10,43] (fun _ j wr=>∃q:Nat,q<=cols/\j= .int .i64 q/\Cells2 wr w.heap.size L N (m+q)/\HeadsT wr (w.heap.size+1) w.heap.size zc cols (k+1)/\Ext w wr) (fun _ j _=>cols-(intOf j).toNat)
   case atStart=>exact⟨0,aa,rfl,hC',hH',hx'⟩
   case round=>
    clear hC hH hxr hC' hH' hx' hc1 hc2 hsz;obtain⟨q,hq,rfl,hC,hH,hxr⟩:=hrel;by_cases hlt:q<cols
    ·have zsr:=hH.row;rw[<-HM.out]at zsr;obtain⟨c1,c2,c3,c4,c5⟩:=hC.cells ((aa:m+q<N));rw[Nat.add_mul]at c1 c2 c3 c4;have hFq:=Zh (show L (m+q)=F k q by rw[HL.out,HM.out];exact zfz F k q cols hlt);have hcf:=HF.out;unfold qB at hcf;go_wp2;go_region_held3 (fun w'=>w'.cell? ⟨w.heap.size+1,k,none⟩=some (.slice (some ⟨w.heap.size,m*2,none⟩) cols cols))
      (first
       |exact(hH.ext Zi).rowM HM.out
       |exact(((hH.ext Zi).far (p:=⟨w.heap.size,m*2+q*2,none⟩) ((aa:w.heap.size+1≠w.heap.size)) _).far (p:=⟨w.heap.size,m*2+q*2+1,none⟩) ((aa:w.heap.size+1≠w.heap.size)) _).rowM HM.out)
      (first
       |(refine(HH.out _ _ _ zsM hlt Zi).mono ?_;rintro e w2 ⟨g,B,k',d,rfl,hz,hs2⟩;obtain⟨d1,d2,d3,d4,d5⟩:=(hC.ext (Zi:Ext wr w2)).cells ((aa:m+q<N));rw[Nat.add_mul]at d1 d2 d3 d4))
     go_wp2;refine⟨⟨q+1,aa,by go_num,?_,?_,Zi⟩,by simp[intOf]<;>omega⟩
     ·have h9:=(hC.ext (Zi:Ext wr w2)).put ((aa:m+q<N)) (by rw[hFq.out];exact hz);rw[Nat.add_mul]at h9;exact h9
     ·exact((hH.ext (Zi:Ext wr w2)).far (p:=⟨w.heap.size,m*2+q*2,none⟩) ((aa:w.heap.size+1≠w.heap.size)) _).far (p:=⟨w.heap.size,m*2+q*2+1,none⟩) ((aa:w.heap.size+1≠w.heap.size)) _
    ·obtain rfl:q=cols:=aa
     rw[HM.out,<-Nat.succ_mul]at hC;go_wp2;exact⟨⟨k+1,aa,by go_num,hC,hH,hxr⟩,by simp[intOf]<;>omega⟩
  ·obtain rfl:k=zc:=aa
   rw[<-HN.out]at hC;have HHd:=Zh hH;clear hH;go_wp2;go_ret;obtain⟨hd,v1,v2,v3,v4⟩:=HHd.out;refine⟨_,k,by rw[zr];rfl,⟨hd,by rw[v2,zr],v1.arr,fun i r hr=>?_⟩,by rw[zr];omega,aa,hxr.toStep⟩;have hi:i<k:=by
    rcases Zl i k with hi|hi
    ·exact hi
    ·rw[List.getElem?_eq_none (by rw[zr];exact hi)]at hr;cases hr
   rw[QT _ _ _ _ hi]at hr;injection hr with hr
   subst hr;have hle:i*cols+cols<=N:=by rw[HN.out,<-Nat.succ_mul];exact Nat.mul_le_mul_right _ hi
   have hp:=hC.part (i*cols) cols hle;have he:((List.range cols).map fun j=>L (i*cols+j))=(List.range cols).map fun j=>F i j:=by
    apply List.map_congr_left;intro j hj;rw[HL.out];exact zfz F i j cols (List.mem_range.1 hj)
   rw[he]at hp;exact⟨_,cols,by simpa using v3 i hi,⟨hp,fun _=>⟨_,_,rfl,Zr⟩⟩,af,aa⟩
theorem IntV.len2{neg:Bool}{z:Int}(h:IntV w neg A n c z)(hz:z.natAbs<18446744073709551616):n<=2:=h.len (k:=2) aa
theorem zfB(ha:IntV w0 na A n c x)(h1:n<=1099511627776)[hx:Ext w0 w]:
  Cq 252 #[.agg #[.bool na,.slice A n c]] w (zz w x):=by
 have HE:=Zh (show zp na (x.natAbs:Int)=x by rw[ha.neg_eq];unfold zp;split<;>simp_all<;>omega);go_enter Tryz.func252,Tryz.ntmps252;go_wp2;go_region_held3 (fun w'=>w'.cell? ⟨w.heap.size,0,none⟩=some (.bool na)/\w'.cell? ⟨w.heap.size,1,none⟩=some (.slice A n c)) (exact zaU w _ _ _ 102)
  (first
   |(go_at_call 188;refine(qS ha).mono ?_;rintro e w' ⟨rfl,rfl⟩)
   |(go_at_call 289;refine(zfs ha.nat h1).mono ?_;intro e w3 hr;obtain⟨B3,n3,d3,rfl,hn3,hs3⟩:=NatV.of_ret hr;clear hr)
   |(go_at_call 245;refine(JN na hn3).mono ?_;rintro e w2 ⟨g,B2,k2,d2,rfl,hz,hs2⟩;obtain⟨q0,q1,q2,q3,q4,q5⟩:=zaT w w2 (.cells #[.bool na,.slice A n c] 102) (.bool false) (.slice none 0 0) 102))
 have Q0:=Zh q0;clear q0;go_wp2;exact bodyPost_ret (v:= .agg #[.bool g,.slice B2 k2 d2]) (by simp[results,Tryz.results252,go_sem,q1,q2]) rfl ⟨_,_,_,_,rfl,hz.boxedN HE.out ac Q0.out _ _,Step.of _ _⟩
def ent(m:List (List Int))(i j:Nat):Int:=(m.getD i []).getD j 0
theorem zaf{r:List Int}(hr:m[i]? =some r)(hx:r[j]? =some x):ent m i j=x:=by
 simp[ent,List.getD,hr,hx]
theorem MatV.ent_(h:MatV w A m)(hn:AllLen m n)(hi:i<m.length)(hj:j<n):
  ∃b o b1 o1 c g B k d,A=some ⟨b,o,none⟩/\w.cell? ⟨b,o+i,none⟩=some (.slice (some ⟨b1,o1,none⟩) n c)/\w.cell? ⟨b1,o1+j*2,none⟩=some (.bool g)/\w.cell? ⟨b1,o1+j*2+1,none⟩=some (.slice B k d)/\IntV w g B k d (ent m i j)/\n<=c/\c<=9223372036854775807/\b<w.heap.size/\b1<w.heap.size:=by
 have hr:m[i]? =some m[i]:=af
 have hl:m[i].length=n:=hn _ (List.getElem_mem hi);obtain⟨b,o,B0,c,hA,hc,hI,h1,h2,hb⟩:=h.at_ hr;obtain⟨b1,o1,g,B,k,d,rfl,c1,c2,hV,hb1⟩:=hI.at_ (i:=j) aa;have he:ent m i j=m[i][j]'aa:=zaf hr af;rw[he];rw[hl]at hc h1;exact⟨b,o,b1,o1,c,g,B,k,d,hA,hc,c1,c2,hV,h1,h2,hb,hb1⟩
theorem zkJ(h:MatV w0 A m)(hn:AllLen m n)(i j:Nat)(hi:i<m.length)(hj:j<n)(zss:(ent m i j).natAbs<18446744073709551616)
  (hp:w.cell? ⟨pb,0,none⟩=some (.slice A m.length c)) (hpb:pb<w.heap.size) [hx:Ext w0 w]:
  Cq 293 #[.int .i64 i,.int .i64 j,.pointer (some ⟨pb,0,none⟩)] w (zz w (ent m i j)):=by
 obtain⟨b,o,b1,o1,c1,g,B,k,d,rfl,e1,e2,e3,hV,e4,e5,e6,e7⟩:=(h.ext hx).ent_ hn hi hj;have hk:=hV.len2 zss;go_enter Tryz.func293,Tryz.ntmps293;go_wp2_with fail
 refine(zfB hV aa).mono ?_;rintro e w2 ⟨g2,B2,k2,d2,rfl,hz,hs2⟩;obtain⟨q0,q1,q2,q3,q4,q5⟩:=qG w w2 (.bool false) (.slice none 0 0) 102;have Q0:=Zh q0;clear q0;go_wp2;exact bodyPost_ret (v:= .agg #[.bool g2,.slice B2 k2 d2]) (by simp[results,Tryz.results293,go_sem,q1,q2]) rfl ⟨_,_,_,_,rfl,hz.boxed ac Q0.out _ _,Step.of _ _⟩
theorem zkK(h:MatV w0 A m)(h1:1<=m.length)(h2:m.length<=16)(hn:AllLen m m.length)[hx:Ext w0 w]:
  Cq 291 #[.slice A m.length c] w (Zq w (.tuple #[.int .i64 m.length,.bool true])):=by
 go_enter Tryz.func291,Tryz.ntmps291;go_wp2_with (go_at_call 310;refine(zkD h m.length h1 h2 h1 h2 hn).mono ?_;rintro e w' ⟨rfl,rfl⟩)
 go_ret2
 exact⟨rfl,rfl⟩
theorem zkL(w w':World)(x0 y0 x1 y1 x2 y2 x3 y3 x4 y4 x5 y5:Value)(T:TypeId)[h:Ext ((((((w.alloc (.cells #[x0,y0] T)).alloc (.cells #[x1,y1] T)).alloc (.cells #[x2,y2] T)).alloc (.cells #[x3,y3] T)).alloc (.cells #[x4,y4] T)).alloc (.cells #[x5,y5] T)) w']:
  w'.cell? ⟨w.heap.size,0,none⟩=some x0/\w'.cell? ⟨w.heap.size,1,none⟩=some y0/\w'.cell? ⟨w.heap.size+1,0,none⟩=some x1/\w'.cell? ⟨w.heap.size+1,1,none⟩=some y1/\
  w'.cell? ⟨w.heap.size+1+1,0,none⟩=some x2/\w'.cell? ⟨w.heap.size+1+1,1,none⟩=some y2/\w'.cell? ⟨w.heap.size+1+1+1,0,none⟩=some x3/\w'.cell? ⟨w.heap.size+1+1+1,1,none⟩=some y3/\
  w'.cell? ⟨w.heap.size+1+1+1+1,0,none⟩=some x4/\w'.cell? ⟨w.heap.size+1+1+1+1,1,none⟩=some y4:=by
 have e1:Ext (w.alloc (.cells #[x0,y0] T)) w':=Ext.trans Zi h;have e2:Ext ((w.alloc (.cells #[x0,y0] T)).alloc (.cells #[x1,y1] T)) w':=Ext.trans Zi h;have e3:Ext (((w.alloc (.cells #[x0,y0] T)).alloc (.cells #[x1,y1] T)).alloc (.cells #[x2,y2] T)) w':=Ext.trans Zi h;have e4:Ext ((((w.alloc (.cells #[x0,y0] T)).alloc (.cells #[x1,y1] T)).alloc (.cells #[x2,y2] T)).alloc (.cells #[x3,y3] T)) w':=Ext.trans Zi h
 have e5:Ext (((((w.alloc (.cells #[x0,y0] T)).alloc (.cells #[x1,y1] T)).alloc (.cells #[x2,y2] T)).alloc (.cells #[x3,y3] T)).alloc (.cells #[x4,y4] T)) w':=Ext.trans Zi h;obtain⟨_,a1,a2,_⟩:=qG w w' x0 y0 T;obtain⟨_,b1,b2,_⟩:=Jj (w.alloc (.cells #[x0,y0] T)) w' (w.heap.size+1) x1 y1 T af;obtain⟨_,c1,c2,_⟩:=Jj ((w.alloc (.cells #[x0,y0] T)).alloc (.cells #[x1,y1] T)) w' (w.heap.size+1+1) x2 y2 T af
 obtain⟨_,d1,d2,_⟩:=Jj (((w.alloc (.cells #[x0,y0] T)).alloc (.cells #[x1,y1] T)).alloc (.cells #[x2,y2] T)) w' (w.heap.size+1+1+1) x3 y3 T af;obtain⟨_,f1,f2,_⟩:=Jj ((((w.alloc (.cells #[x0,y0] T)).alloc (.cells #[x1,y1] T)).alloc (.cells #[x2,y2] T)).alloc (.cells #[x3,y3] T)) w' (w.heap.size+1+1+1+1) x4 y4 T af;exact⟨a1,a2,b1,b2,c1,c2,d1,d2,f1,f2⟩
set_option maxRecDepth 10000 in
theorem zkM{wa wb wc wd we:World}{nb nc nd ne:Bool}{C D E:Option Addr}{ka kb kc kd ke ca cb cc cd ce:Nat}{a c v:Int}
  (ha:IntV wa na A ka ca a) (hb:IntV wb nb B kb cb b) (hc:IntV wc nc C kc cc c) (hd:IntV wd nd D kd cd d) (he:IntV we ne E ke ce v)
  (ba:a.natAbs<18446744073709551616) (bb:b.natAbs<18446744073709551616) (bc:c.natAbs<18446744073709551616) (bd:d.natAbs<18446744073709551616) (b1:(a*d).natAbs<18446744073709551616) (b2:(b*c).natAbs<18446744073709551616)
  (b3:(a*d-b*c).natAbs<18446744073709551616) (hv:v≠0) (bv:v.natAbs<18446744073709551616) [xa:Ext wa w] [xb:Ext wb w] [xc:Ext wc w] [xd:Ext wd w] [xe:Ext we w]:
  Cq 295 #[.agg #[.bool na,.slice A ka ca],.agg #[.bool nb,.slice B kb cb],.agg #[.bool nc,.slice C kc cc],.agg #[.bool nd,.slice D kd cd],.agg #[.bool ne,.slice E ke ce]] w (zz w ((a*d-b*c) / v)):=by
 have la:=ha.len2 ba;have lb:=hb.len2 bb;have lc:=hc.len2 bc;have ld:=hd.len2 bd;go_enter Tryz.func295,Tryz.ntmps295;go_upto_region 1 with fail
 have hst:Step w ((((((w.alloc (.cells #[.bool na,.slice A ka ca] 102)).alloc (.cells #[.bool nb,.slice B kb cb] 102)).alloc (.cells #[.bool nc,.slice C kc cc] 102)).alloc (.cells #[.bool nd,.slice D kd cd] 102)).alloc (.cells #[.bool ne,.slice E ke ce] 102)).alloc (.cells #[.bool false,.slice none 0 0] 102)):=Step.of _ _;have hbx:=zkL w ((((((w.alloc (.cells #[.bool na,.slice A ka ca] 102)).alloc (.cells #[.bool nb,.slice B kb cb] 102)).alloc (.cells #[.bool nc,.slice C kc cc] 102)).alloc (.cells #[.bool nd,.slice D kd cd] 102)).alloc (.cells #[.bool ne,.slice E ke ce] 102)).alloc (.cells #[.bool false,.slice none 0 0] 102)) (.bool na) (.slice A ka ca) (.bool nb) (.slice B kb cb) (.bool nc) (.slice C kc cc) (.bool nd) (.slice D kd cd) (.bool ne) (.slice E ke ce) (.bool false) (.slice none 0 0) 102
 have hrb:=Jj (((((w.alloc (.cells #[.bool na,.slice A ka ca] 102)).alloc (.cells #[.bool nb,.slice B kb cb] 102)).alloc (.cells #[.bool nc,.slice C kc cc] 102)).alloc (.cells #[.bool nd,.slice D kd cd] 102)).alloc (.cells #[.bool ne,.slice E ke ce] 102)) ((((((w.alloc (.cells #[.bool na,.slice A ka ca] 102)).alloc (.cells #[.bool nb,.slice B kb cb] 102)).alloc (.cells #[.bool nc,.slice C kc cc] 102)).alloc (.cells #[.bool nd,.slice D kd cd] 102)).alloc (.cells #[.bool ne,.slice E ke ce] 102)).alloc (.cells #[.bool false,.slice none 0 0] 102)) (w.heap.size+1+1+1+1+1) (.bool false) (.slice none 0 0) 102 af
 generalize ((((((w.alloc (.cells #[.bool na,.slice A ka ca] 102)).alloc (.cells #[.bool nb,.slice B kb cb] 102)).alloc (.cells #[.bool nc,.slice C kc cc] 102)).alloc (.cells #[.bool nd,.slice D kd cd] 102)).alloc (.cells #[.bool ne,.slice E ke ce] 102)).alloc (.cells #[.bool false,.slice none 0 0] 102))=W at hst hbx hrb|-
 obtain⟨q0,q1,q2,q3,q4,q5⟩:=hrb;have o0:Old w.heap.size W:=⟨aa⟩;have o1:Old (w.heap.size+1) W:=⟨aa⟩;have o2:Old (w.heap.size+1+1) W:=⟨aa⟩;have o3:Old (w.heap.size+1+1+1) W:=⟨aa⟩;have o4:Old (w.heap.size+1+1+1+1) W:=⟨aa⟩;have o5:Old (w.heap.size+1+1+1+1+1) W:=⟨aa⟩;have HB:=Zh hbx;have Q0:=Zh q0;have Q1:=Zh q1;have Q2:=Zh q2;have Q3:=Zh q3;have Q4:=Zh q4;clear hbx q0 q1 q2 q3 q4 q5
 go_cut [11] (fun s11 wx=>∃(p:Nat) (g:Bool) (B':Option Addr) (k' d':Nat),s11= .pointer (some ⟨p,0,none⟩)/\wx.cell? ⟨p,0,none⟩=some (.bool g)/\wx.cell? ⟨p,1,none⟩=some (.slice B' k' d')/\IntV wx g B' k' d' ((a*d-b*c) / v)/\Ext W wx)
 case first=>
  go_region_held3 (fun w'=>w'.cell? ⟨w.heap.size,0,none⟩=some (.bool na)/\w'.cell? ⟨w.heap.size,1,none⟩=some (.slice A ka ca)/\w'.cell? ⟨w.heap.size+1,0,none⟩=some (.bool nb)/\w'.cell? ⟨w.heap.size+1,1,none⟩=some (.slice B kb cb)/\w'.cell? ⟨w.heap.size+1+1,0,none⟩=some (.bool nc)/\w'.cell? ⟨w.heap.size+1+1,1,none⟩=some (.slice C kc cc)/\w'.cell? ⟨w.heap.size+1+1+1,0,none⟩=some (.bool nd)/\w'.cell? ⟨w.heap.size+1+1+1,1,none⟩=some (.slice D kd cd)/\w'.cell? ⟨w.heap.size+1+1+1+1,0,none⟩=some (.bool ne)/\w'.cell? ⟨w.heap.size+1+1+1+1,1,none⟩=some (.slice E ke ce))
   ((simp only[zk W];exact HB.out))
   (first
    |(go_at_call_of 249 (Value.slice A ka ca);refine(zbQ ha hd aa aa).mono ?_;rintro e w1 ⟨g1,B1,k1,d1,rfl,hz1,hs1⟩)
    |(go_at_call_of 249 (Value.slice B kb cb);refine(zbQ hb hc aa aa).mono ?_;rintro e w2 ⟨g2,B2,k2,d2,rfl,hz2,hs2⟩)
    |(go_at_call 248;refine(zfm hz1 hz2 (by have:=hz1.len2 b1;omega) (by have:=hz2.len2 b2;omega)).mono ?_;rintro e w3 ⟨g3,B3,k3,d3,rfl,hz3,hs3⟩)
    |(go_at_call 250;refine(zfw hz3 he b3 hv bv).mono ?_;rintro e w4 ⟨g4,B4,k4,d4,g5,B5,k5,d5,rfl,hz4,hz5,hs4⟩))
  all_goals (go_wp2_with fail;go_meet;exact⟨_,g4,B4,k4,d4,rfl,by go_simp,by go_simp,hz4.keeps,Zi⟩)
 case rest=>
  obtain⟨p,g,B',k',d',rfl,hp1,hp2,hz,hxx⟩:=hcut;have r0:=zg hxx Q0.out;have r1:wc.cell? ⟨w.heap.size+1+1+1+1+1,0,none⟩=some (.bool false):=(zk W).trans Q1.out;have r2:wc.cell? ⟨w.heap.size+1+1+1+1+1,1,none⟩=some (.slice none 0 0):=(zk W).trans Q2.out;have r3:wc.frozen? ⟨w.heap.size+1+1+1+1+1,0,none⟩=false:=(ZY W).trans Q3.out;have r4:wc.frozen? ⟨w.heap.size+1+1+1+1+1,1,none⟩=false:=(ZY W).trans Q4.out
  have R0:=Zh r0;clear r0;go_wp2;exact bodyPost_ret (v:= .agg #[.bool g,.slice B' k' d']) (by simp[results,Tryz.results295,go_sem,r1,r2]) rfl ⟨_,_,_,_,rfl,hz.boxed ac R0.out _ _,(((hst.ext.trans hxx).setCell (p:=⟨w.heap.size+1+1+1+1+1,0,none⟩) ((aa:w.heap.size<=w.heap.size+1+1+1+1+1)) _).setCell (p:=⟨w.heap.size+1+1+1+1+1,1,none⟩) ((aa:w.heap.size<=w.heap.size+1+1+1+1+1)) _).toStep⟩
def zbU(zd:Int)(b:List (List Int))(i j:Nat):Prop:=
 (ent b 0 0).natAbs<18446744073709551616/\(ent b (i+1) 0).natAbs<18446744073709551616/\(ent b 0 (j+1)).natAbs<18446744073709551616/\(ent b (i+1) (j+1)).natAbs<18446744073709551616/\
 (ent b 0 0*ent b (i+1) (j+1)).natAbs<18446744073709551616/\(ent b (i+1) 0*ent b 0 (j+1)).natAbs<18446744073709551616/\
 (ent b 0 0*ent b (i+1) (j+1)-ent b (i+1) 0*ent b 0 (j+1)).natAbs<18446744073709551616/\zd≠0/\zd.natAbs<18446744073709551616
set_option maxRecDepth 10000 in
theorem zkN{lb:Nat}{gl:Bool}{Bl:Option Addr}{kl dl:Nat}(h:MatV w0 A m)(hl:IntV w0 gl Bl kl dl zd)(hn:AllLen m n)(hm:m.length=n)(zxP:n<=16)(i j:Nat)(hi:i+1<n)(hj:j+1<n)(hok:zbU zd m i j)
  (hp:w.cell? ⟨pb,0,none⟩=some (.slice A m.length c)) (hpb:pb<w.heap.size) (hl1:w.cell? ⟨lb,0,none⟩=some (.bool gl)) (hl2:w.cell? ⟨lb,1,none⟩=some (.slice Bl kl dl)) (hlb:lb<w.heap.size) [hx:Ext w0 w]:
  Cq 294 #[.int .i64 i,.int .i64 j,.pointer (some ⟨pb,0,none⟩),.pointer (some ⟨lb,0,none⟩)] w (zz w ((ent m 0 0*ent m (i+1) (j+1)-ent m (i+1) 0*ent m 0 (j+1)) / zd)):=by
 have h0:=h.ext hx;obtain⟨b,o,b1,o1,c1,g1,B1,k1,d1,rfl,e1,e2,e3,hV1,f1,f2,f3,f4⟩:=h0.ent_ (i:=0) (j:=0) hn aa aa;obtain⟨b',o',b2,o2,c2,g2,B2,k2,d2,hA,e4,e5,e6,hV2,f5,f6,f7,f8⟩:=h0.ent_ (i:=i+1) (j:=0) hn aa aa;injection hA with hA
 injection hA with x1 x2
 subst x1 x2;obtain⟨b',o',b3,o3,c3,g3,B3,k3,d3,hA,e7,e8,e9,hV3,f9,f10,f11,f12⟩:=h0.ent_ (i:=0) (j:=j+1) hn aa aa;injection hA with hA
 injection hA with x1 x2
 subst x1 x2;rw[e1]at e7;injection e7 with e7
 injection e7 with x1 x2 x3
 injection x1 with x1
 injection x1 with x1 x4
 subst x1 x4 x3;obtain⟨b',o',b4,o4,c4,g4,B4,k4,d4,hA,e10,e11,e12,hV4,f13,f14,f15,f16⟩:=h0.ent_ (i:=i+1) (j:=j+1) hn aa aa;injection hA with hA
 injection hA with x1 x2
 subst x1 x2;rw[e4]at e10;injection e10 with e10
 injection e10 with x1 x2 x3
 injection x1 with x1
 injection x1 with x1 x4
 subst x1 x4 x3;simp only[Nat.add_zero,Nat.zero_mul]at e1 e2 e3 e5 e6;have w1:IntKind.i64.wrap ((i:Int)+1)=(i:Int)+1:=by rw[IntKind.wrap_i64];omega
 have w2:IntKind.i64.wrap ((j:Int)+1)=(j:Int)+1:=by rw[IntKind.wrap_i64];omega
 have w3:((i:Int)+1).toNat=i+1:=aa
 have w4:((j:Int)+1).toNat=j+1:=aa
 have w5:(0:Int)<=(i:Int)+1:=aa
 have w6:(0:Int)<=(j:Int)+1:=aa
 have w7:(i:Int)+1<(n:Int):=aa
 have w8:(j:Int)+1<(n:Int):=aa
 have w9:(0:Int)<(n:Int):=aa
 have w10:0<n:=aa
 have oa:Old b w:=⟨f3⟩;have ob:Old b1 w:=⟨f4⟩;have oc:Old b2 w:=⟨f8⟩;have od:Old pb w:=⟨hpb⟩;have oe:Old lb w:=⟨hlb⟩;obtain⟨k01,k02,k03,k04,k05,k06,k07,k08,k09⟩:=hok;rw[hm]at hp;have HS:=Zh (show w.cell? ⟨pb,0,none⟩=some (.slice (some ⟨b,o,none⟩) n c)/\w.cell? ⟨b,o,none⟩=some (.slice (some ⟨b1,o1,none⟩) n c1)/\w.cell? ⟨b,o+(i+1),none⟩=some (.slice (some ⟨b2,o2,none⟩) n c2)/\w.cell? ⟨b1,o1,none⟩=some (.bool g1)/\w.cell? ⟨b1,o1+1,none⟩=some (.slice B1 k1 d1)/\w.cell? ⟨b2,o2,none⟩=some (.bool g2)/\w.cell? ⟨b2,o2+1,none⟩=some (.slice B2 k2 d2)/\w.cell? ⟨b1,o1+(j+1)*2,none⟩=some (.bool g3)/\w.cell? ⟨b1,o1+(j+1)*2+1,none⟩=some (.slice B3 k3 d3)/\w.cell? ⟨b2,o2+(j+1)*2,none⟩=some (.bool g4)/\w.cell? ⟨b2,o2+(j+1)*2+1,none⟩=some (.slice B4 k4 d4)/\w.cell? ⟨lb,0,none⟩=some (.bool gl)/\w.cell? ⟨lb,1,none⟩=some (.slice Bl kl dl) from ⟨hp,e1,e4,e2,e3,e5,e6,e8,e9,e11,e12,hl1,hl2⟩)
 clear hp e1 e4 e2 e3 e5 e6 e8 e9 e11 e12 hl1 hl2 h0;have HN:=Zh hn;have HM:=Zh hm;clear hn hm;go_enter Tryz.func294,Tryz.ntmps294;go_wp2;go_region_held3 (fun w'=>w'.cell? ⟨pb,0,none⟩=some (.slice (some ⟨b,o,none⟩) n c)/\w'.cell? ⟨b,o,none⟩=some (.slice (some ⟨b1,o1,none⟩) n c1)/\w'.cell? ⟨b,o+(i+1),none⟩=some (.slice (some ⟨b2,o2,none⟩) n c2)/\w'.cell? ⟨b1,o1,none⟩=some (.bool g1)/\w'.cell? ⟨b1,o1+1,none⟩=some (.slice B1 k1 d1)/\w'.cell? ⟨b2,o2,none⟩=some (.bool g2)/\w'.cell? ⟨b2,o2+1,none⟩=some (.slice B2 k2 d2)/\w'.cell? ⟨b1,o1+(j+1)*2,none⟩=some (.bool g3)/\w'.cell? ⟨b1,o1+(j+1)*2+1,none⟩=some (.slice B3 k3 d3)/\w'.cell? ⟨b2,o2+(j+1)*2,none⟩=some (.bool g4)/\w'.cell? ⟨b2,o2+(j+1)*2+1,none⟩=some (.slice B4 k4 d4)/\w'.cell? ⟨lb,0,none⟩=some (.bool gl)/\w'.cell? ⟨lb,1,none⟩=some (.slice Bl kl dl))
  ((simp only[zk w];exact HS.out))
  (first
   |(go_at_call 295;refine(zkM hV1 hV2 hV3 hV4 hl k01 k02 k03 k04 k05 k06 k07 k08 k09).mono ?_;rintro e wz ⟨gz,Bz,kz,dz,rfl,hz,hsz⟩))
 go_wp2;exact bodyPost_ret (v:= .agg #[.bool gz,.slice Bz kz dz]) (by simp[results,Tryz.results294,go_sem]) rfl ⟨_,_,_,_,rfl,hz.keeps,Step.of _ _⟩
def jh(zd:Int)(b:List (List Int)):List (List Int):=tab (fun i j=>(ent b 0 0*ent b (i+1) (j+1)-ent b (i+1) 0*ent b 0 (j+1)) / zd) (b.length-1) (b.length-1)
def zm(m:List (List Int)):Nat->Int×List (List Int)
 |0=>(1,m)
 |k+1=>(ent (zm m k).2 0 0,jh (zm m k).1 (zm m k).2)
theorem Qa(F:Nat->Nat->Int)(r c:Nat):AllLen (tab F r c) c:=by
 intro x hx;simp only[tab,List.mem_map]at hx;obtain⟨i,_,rfl⟩:=hx;simp
theorem ZL(m:List (List Int)):∀k,(zm m k).2.length=m.length-k
 |0=>rfl
 |k+1=>by simp only[zm,jh];rw[zr,ZL m k];omega
theorem zag(m:List (List Int))(hn:AllLen m m.length):∀k,AllLen (zm m k).2 (m.length-k)
 |0=>hn
 |k+1=>by
  have h:=Qa (fun i j=>(ent (zm m k).2 0 0*ent (zm m k).2 (i+1) (j+1)-ent (zm m k).2 (i+1) 0*ent (zm m k).2 0 (j+1)) / (zm m k).1) ((zm m k).2.length-1) ((zm m k).2.length-1);rw[ZL]at h;simp only[zm,jh];rw[ZL,(aa:m.length-(k+1)=m.length-k-1)];exact h
structure ElimOK(m:List (List Int)):Prop where
 small:∀i j,i<m.length->j<m.length->(ent m i j).natAbs<18446744073709551616
 pivot:∀k,k+1<m.length->ent (zm m k).2 0 0≠0
 cross:∀k i j,i+1<m.length-k->j+1<m.length-k->zbU (zm m k).1 (zm m k).2 i j
def Qp(m:List (List Int)):List (List (List Int)):=(List.range m.length).map fun k=>(zm m k).2
def zkO(w:World)(s:List (List (List Int)))(b:Bool)(e:Ending)(w':World):Prop:=∃A c,e= .returned (.tuple #[.slice A s.length c,.bool b])/\StV w' A s/\s.length<=c/\c<=9223372036854775807/\Step w w'
theorem zkP:qB 293:=JQ Tryz.func293 ai ai
theorem zkQ:qB 294:=JQ Tryz.func294 ai ai
theorem zfC(m:List (List Int))(n:Nat)(hn:AllLen m n):tab (ent m) m.length n=m:=Jl m n hn
def Sofar(w:World)(ze L:Nat)(m:List (List Int))(A:Option Addr)(k c:Nat):Prop:=
 ∃hd:List Value,Own w ze 48 1 A k c hd/\∀i,i<k->∃B d,hd[i]? =some (.slice B (m.length-i) d)/\MatX (·≠L) w B (zm m i).2/\m.length-i<=d/\d<=9223372036854775807
theorem Sofar.ext(h:Sofar w ze L m A k c)(hx:Ext w w'):Sofar w' ze L m A k c:=by
 obtain⟨hd,h1,h2⟩:=h;refine⟨hd,h1.ext hx,fun i hi=>?_⟩;obtain⟨B,d,a1,a2,a3⟩:=h2 i hi;exact⟨B,d,a1,a2.ext hx,a3⟩
theorem Grow.heap{e':TypeId}(h:Grow ze e w w'){b:Nat}(hb:w.heap[b]? =some (.cells cs e' fr))(hne:e'≠e):w'.heap[b]? =some (.cells cs e' fr):=
 (h.typed b (zi hb) fun cs' fr' hh=>by rw[hb]at hh;injection hh with hh;injection hh with _ he;exact hne he).trans hb
theorem Sofar.put{W:World}{A':Option Addr}{c' d:Nat}{hd:List Value}(zsq:Own w ze 48 1 A k c hd)
  (hhd:∀i,i<k->∃B d,hd[i]? =some (.slice B (m.length-i) d)/\MatX (·≠L) w B (zm m i).2/\m.length-i<=d/\d<=9223372036854775807)
  (hM:MatX (·≠L) w B (zm m k).2) (hd1:m.length-k<=d) (hd2:d<=9223372036854775807) (hx:Ext w W) (hg:Grow ze 48 W w') (zwq:Own w' ze 48 1 A' (k+1) c' (hd++[.slice B (m.length-k) d])):Sofar w' ze L m A' (k+1) c':=by
 have zss:hd.length=k:=by have:=zsq.len;omega
 refine⟨_,zwq,fun i hi=>?_⟩;rcases Zl i k with h|h
 ·obtain⟨B',d',a1,a2,a3⟩:=hhd i h;exact⟨B',d',by rw[List.getElem?_append_left aa];exact a1,(a2.ext hx).grow hg ac ac ac,a3⟩
 ·obtain rfl:i=k:=aa
  exact⟨B,d,by rw[List.getElem?_append_right aa,zss];simp,(hM.ext hx).grow hg ac ac ac,hd1,hd2⟩
theorem Sofar.setBox(h:Sofar w ze L m A k c)(hL:w.heap[L]? =some (.cells cs 102 fr))(i:Nat)(u:Value):Sofar (w.setCell ⟨L,i,none⟩ u) ze L m A k c:=by
 obtain⟨hd,⟨h1,h1'⟩,h2⟩:=h;refine⟨hd,⟨h1,?_⟩,fun i hi=>?_⟩
 ·rcases h1' with hv|⟨g,cap,cur,hv,a1,a2,a3⟩
  ·exact .inl hv
  ·refine .inr ⟨g,cap,cur,hv,a1,?_,a3⟩;refine(Below.heap_setCell w ⟨L,i,none⟩ u g (fun hh=>?_)).trans a2;have hh':g=L:=hh;rw[hh']at a2;rw[hL]at a2;injection a2 with a2
   injection a2 with _ he
   exact absurd he ac
 ·obtain⟨B,d,a1,a2,a3⟩:=h2 i hi;exact⟨B,d,a1,a2.setBox hL _ _,a3⟩
set_option maxRecDepth 10000 in
theorem zfD(h:MatV w0 A m)(h1:1<=m.length)(h2:m.length<=16)(hn:AllLen m m.length)(hok:ElimOK m)[hx:Ext w0 w]:
  Cq 257 #[.slice A m.length c] w (zkO w (Qp m) true):=by
 have zuC:=zfA (w:=w.alloc (.cells #[.slice A m.length c] 48)) 293 #[.pointer (some ⟨w.heap.size,0,none⟩)] m.length m.length aa aa h1 zkP (ent m)
  (fun i j W hi hj hW=>by
   obtain⟨-,a1,a2,a3⟩:=za0 w W w.heap.size (.slice A m.length c) 48 rfl;have:Ext w W:=Ext.trans Zi hW;have:Ext w0 W:=hx.trans this;exact zkJ h hn i j hi hj (hok.small i j hi hj) a1 a3)
 rw[zfC m _ hn]at zuC;have HT:=Zh zuC;have HO:=Zh hok;have HN:=Zh hn;clear zuC hok;go_enter Tryz.func257,Tryz.ntmps257;go_wp2_with fail
 go_step3
 go_wp2_with fail
 refine(zkK h h1 h2 hn).mono ?_;rintro e w' ⟨rfl,rfl⟩;clear hn;go_wp2_with fail
 refine HT.out.mono ?_;rintro e w1 ⟨A1,c1,rfl,hm1,hc1,hc2,hs1⟩;go_wp2_with fail
 refine(zbN 1 aa aa _).mono ?_;rintro e w2 ⟨g2,B2,k2,d2,rfl,hz2,hs2⟩;have hmX:MatX (·≠w2.heap.size) (w2.alloc (.cells #[.bool g2,.slice B2 k2 d2] 102)) A1 (zm m 0).2:=((hm1.mat.ext hs2.ext).old.mono (fun b hb=>aa)).ext Zi;go_wp2;go_step3
 go_wp2;go_loopw [6,8,9,10,24] (fun s6 s8 _ _ i wr=>∃(k:Nat) (A c:_) (Al:Option Addr) (cl:Nat) (gl:Bool) (Bl:Option Addr) (kl dl:Nat),k<m.length/\i= .int .i64 k/\s6= .slice A (m.length-k) c/\MatX (·≠w2.heap.size) wr A (zm m k).2/\m.length-k<=c/\c<=9223372036854775807/\s8= .slice Al k cl/\Sofar wr w.heap.size w2.heap.size m Al k cl/\wr.heap[w2.heap.size]? =some (.cells #[.bool gl,.slice Bl kl dl] 102 (0,0))/\IntV wr gl Bl kl dl (zm m k).1/\Ext w wr) (fun _ _ _ _ i _=>m.length-(intOf i).toNat)
 case atStart=>
  refine⟨0,A1,c1,none,0,g2,B2,k2,d2,aa,rfl,rfl,hmX,aa,hc2,rfl,⟨[],Own.nil _ _ _ _,fun i hi=>absurd hi aa⟩,heap_alloc_new w2 _,hz2.ext Zi,Zi⟩
 case round=>
  obtain⟨k,A2,c2,Al,cl,gl,Bl,kl,dl,hk,rfl,rfl,hM,zvi,zvj,rfl,hS,hL,hI,hxr⟩:=hrel;obtain⟨wo,rfl⟩:∃wo:World,wo=wr:=⟨_,rfl⟩;have HL:=Zh hL;clear hL;obtain⟨hd,zsq,hhd⟩:=id hS;have HH:=Zh hhd;clear hhd hS;have zsA:=Arr.new wo 48 #[.slice A2 (m.length-k) c2];by_cases zsS:k=m.length-1
  ·have HLast:=Zh zsS;have hlb:((k:Int)==(m.length:Int)-1)=true:=by simp;omega
   clear zsS;go_wp2_with (at_builtin;refine Zp _ rfl _ _ 137 rfl w.heap.size 48 (.slice none 0 0) 1 24 Tryz.underlying137 zfx rfl aa aa Al k cl hd rfl (zsq.ext Zi) _ 1 1 [.slice A2 (m.length-k) c2] rfl zsA af (by simp[Value.oneCell']) aa (by have:=hxr.size;simp;omega) ?_;intro A3 c3 w3 zsI hg3)
   go_ret2
   have hS3:=Sofar.put zsq HH.out hM zvi zvj (Zi:Ext wo (wo.alloc (.cells #[.slice A2 (m.length-k) c2] 48))) hg3 zsI;have hk1:k+1=m.length:=by have:=HLast.out;omega
   rw[hk1]at hS3|-
   have zsB:=zsI.cap;have zss:(Qp m).length=m.length:=by simp[Qp]
   have hxx:Ext w w3:=hg3.ext Zi Zr;refine⟨A3,c3,by rw[zss];rfl,?_,aa,aa,hxx.toStep⟩;obtain⟨hd',ho',hh'⟩:=hS3;refine⟨hd',by rw[zss];simpa using ho'.len,ho'.arr,fun i r hr=>?_⟩;have hi:i<m.length:=by
    rcases Zl i m.length with hi|hi
    ·exact hi
    ·rw[List.getElem?_eq_none aa]at hr;cases hr
   have hr':r=(zm m i).2:=by simp[Qp,hi]at hr;exact hr.symm
   subst hr';obtain⟨B,d,a1,a2,a3,a4⟩:=hh' i hi;rw[ZL];exact⟨B,d,a1,a2.mat,a3,a4⟩
  ·have hlb:((k:Int)==(m.length:Int)-1)=false:=by simp;omega
   have hk1:k+1<m.length:=aa
   clear zsS;have zuz:=HO.out.pivot k hk1;have hsg:(zo (ent (zm m k).2 0 0) 0==0)=false:=by unfold zo;split<;>simp_all
   go_wp2_with (first
    |(at_builtin;refine Zp _ rfl _ _ 137 rfl w.heap.size 48 (.slice none 0 0) 1 24 Tryz.underlying137 zfx rfl aa aa Al k cl hd rfl (zsq.ext Zi) _ 1 1 [.slice A2 (m.length-k) c2] rfl zsA af (by simp[Value.oneCell']) aa (by have:=hxr.size;simp;omega) ?_;intro A3 c3 w3 zsI hg3;have hM3:=(hM.ext (Zi:Ext wo (wo.alloc (.cells #[.slice A2 (m.length-k) c2] 48)))).grow hg3 ac ac ac;have hL3:=Grow.heap hg3 (zg (Zi:Ext wo (wo.alloc (.cells #[.slice A2 (m.length-k) c2] 48))) HL.out) ac;have hI3:=(hI.ext (Zi:Ext wo (wo.alloc (.cells #[.slice A2 (m.length-k) c2] 48)))).grow hg3 ac;have hS3:=Sofar.put zsq HH.out hM zvi zvj (Zi:Ext wo (wo.alloc (.cells #[.slice A2 (m.length-k) c2] 48))) hg3 zsI;have hx3:Ext w w3:=hg3.ext Zi Zr;obtain⟨b0,o0,b1,o1,c0,g0,B0,k0,d0,rfl,e1,e2,e3,hV0,f1,f2,f3,f4⟩:=hM3.mat.ent_ (i:=0) (j:=0) (zag m HN.out k) (by rw[ZL];omega) aa;simp only[Nat.add_zero,Nat.zero_mul]at e1 e2 e3;have ob0:Old b0 w3:=⟨f3⟩;have ob1:Old b1 w3:=⟨f4⟩;have HL3:=Zh hL3;clear hL3)
    |(go_at_call 247;refine(zfn hV0).mono ?_;rintro e w4 ⟨rfl,hs4⟩)
    |fail)
   have zvk:Ext w3 w4:=hs4.ext;have hst:(zm m k).2.length=m.length-k:=ZL m k;have zt9:=zfA (w:=w4.alloc (.cells #[.slice (some ⟨b0,o0,none⟩) (m.length-k) c2] 48)) 294 #[.pointer (some ⟨w4.heap.size,0,none⟩),.pointer (some ⟨w2.heap.size,0,none⟩)] (m.length-k-1) (m.length-k-1) aa aa aa zkQ
    (fun i j=>(ent (zm m k).2 0 0*ent (zm m k).2 (i+1) (j+1)-ent (zm m k).2 (i+1) 0*ent (zm m k).2 0 (j+1)) / (zm m k).1)
    (fun i j W hi hj hW=>by
     obtain⟨-,a1,a2,a3⟩:=za0 w4 W w4.heap.size (.slice (some ⟨b0,o0,none⟩) (m.length-k) c2) 48 rfl;have hx4:Ext w4 W:=Ext.trans Zi hW;have hx3:Ext w3 W:=zvk.trans hx4;have hLW:=zg hx3 HL3.out;refine zkN (n:=m.length-k) (c:=c2) hM3.mat hI3 (zag m HN.out k) hst aa i j aa aa (HO.out.cross k i j aa aa) ?_ a3 ?_ ?_ (zi hLW)
     ·rw[hst];exact a1
     ·simp[World.cell?,hLW]
     ·simp[World.cell?,hLW])
   rw[(aa:((m.length-k-1:Nat):Int)=(m.length:Int)-(k:Int)-1)]at zt9;have zvl:tab (fun i j=>(ent (zm m k).2 0 0*ent (zm m k).2 (i+1) (j+1)-ent (zm m k).2 (i+1) 0*ent (zm m k).2 0 (j+1)) / (zm m k).1) (m.length-k-1) (m.length-k-1)=(zm m (k+1)).2:=by
    simp only[zm,jh];rw[hst]
   rw[zvl]at zt9;have HNX:=Zh hst;clear zvl hst;refine zt9.mono ?_;clear zt9;rintro e w5 ⟨A5,c5,rfl,hM5,zwr,zws,hs5⟩;rw[ZL]at zwr|-
   have hx5:Ext w3 w5:=Zi;have hL5:=zg hx5 HL3.out;have oL:Old w2.heap.size w3:=⟨zi HL3.out⟩;have q1:w5.cell? ⟨w2.heap.size,0,none⟩=some (.bool gl):=by simp[World.cell?,hL5]
   have q2:w5.cell? ⟨w2.heap.size,1,none⟩=some (.slice Bl kl dl):=by simp[World.cell?,hL5]
   have q3:w5.frozen? ⟨w2.heap.size,0,none⟩=false:=by simp[World.frozen?,hL5]
   have q4:w5.frozen? ⟨w2.heap.size,1,none⟩=false:=by simp[World.frozen?,hL5]
   have z5:w2.heap.size<(w4.alloc (.cells #[.slice (some ⟨b0,o0,none⟩) (m.length-k) c2] 48)).heap.size:=by
    have:=zi HL3.out;have:=zvk.size;simp;omega
   have hMX:MatX (·≠w2.heap.size) w5 A5 (zm m (k+1)).2:=hM5.mono (fun b hb=>aa);have HL5:=Zh hL5;have hw2:w.heap.size<=w2.heap.size:=(Zi:Ext w w2).size;clear hL5 z5;go_wp2;refine⟨⟨k+1,A5,c5,A3,c3,g0,B0,k0,d0,aa,by go_num,rfl,?_,?_,zws,rfl,?_,?_,?_,?_⟩,by simp[intOf]<;>omega⟩
   ·exact(hMX.setBox HL5.out _ _).setBox (zX HL5.out _) _ _
   ·omega
   ·exact((hS3.ext hx5).setBox HL5.out _ _).setBox (zX HL5.out _) _ _
   ·rw[zX (zX HL5.out _)];rfl
   ·exact(hV0.ext hx5).boxed ac HL5.out _ _
   ·exact(((hx3.trans hx5).setCell (p:=⟨w2.heap.size,0,none⟩) hw2 _).setCell (p:=⟨w2.heap.size,1,none⟩) hw2 _)
theorem MatA.ent_(h:MatA w A m)(hi:i<m.length)(hl:(m.getD i []).length=n)(hj:j<n):
  ∃b o b1 o1 c,A=some ⟨b,o,none⟩/\w.cell? ⟨b,o+i,none⟩=some (.slice (some ⟨b1,o1,none⟩) n c)/\w.cell? ⟨b1,o1+j,none⟩=some (.int .i64 (ent m i j))/\n<=c/\c<=9223372036854775807/\b<w.heap.size/\b1<w.heap.size:=by
 have hr:m[i]? =some m[i]:=af
 have hl':m[i].length=n:=by simpa[List.getD,hi] using hl
 obtain⟨b,o,B0,c,hA,hc,hI,h1,h2,hb⟩:=h.at_ hr;obtain⟨b1,o1,x,rfl,hx,c1,hb1⟩:=hI.at_ (i:=j) aa;have he:ent m i j=x:=zaf hr hx;rw[he];rw[hl']at hc h1;exact⟨b,o,b1,o1,c,hA,hc,c1,h1,h2,hb,hb1⟩
theorem MatA.row_(h:MatA w A m)(hi:i<m.length):
  ∃b o B c,A=some ⟨b,o,none⟩/\w.cell? ⟨b,o+i,none⟩=some (.slice B (m.getD i []).length c)/\(m.getD i []).length<=c/\c<=9223372036854775807/\b<w.heap.size:=by
 have hr:m[i]? =some m[i]:=af
 obtain⟨b,o,B0,c,hA,hc,hI,h1,h2,hb⟩:=h.at_ hr;have e:m.getD i []=m[i]:=by simp[List.getD,hi]
 rw[e];exact⟨b,o,B0,c,hA,hc,h1,h2,hb⟩
def Qq(h:List (List Int)):Bool:=decide (1<=h.length/\h.length<=8/\(∀i,i<h.length->(h.getD i []).length=h.length)/\∀i,i<h.length->∀j,j<h.length->ent h i j=ent h j i/\-262144<ent h i j/\ent h i j<262144)
theorem zah(hh:¬(1<=h.length/\h.length<=8/\(∀i,i<h.length->(h.getD i []).length=h.length)/\∀i,i<h.length->∀j,j<h.length->ent h i j=ent h j i/\-262144<ent h i j/\ent h i j<262144)):Qq h=false:=decide_eq_false hh
theorem zkR(hh:1<=h.length/\h.length<=8/\(∀i,i<h.length->(h.getD i []).length=h.length)/\∀i,i<h.length->∀j,j<h.length->ent h i j=ent h j i/\-262144<ent h i j/\ent h i j<262144):Qq h=true:=decide_eq_true hh
set_option maxRecDepth 10000 in
theorem zfE(h:MatA w0 A m)(zss:m.length<=1099511627776)[hx:Ext w0 w]:
  Cq 101 #[.slice A m.length c] w (Zq w (.bool (Qq m))):=by
 have h0:=h.ext hx;by_cases hz:m.length<1
 ·have HF:=Zh (zah (h:=m) aa);have hd1:decide ((m.length:Int)<1)=true:=by simp;omega
  go_enter Tryz.func101,Tryz.ntmps101;go_wp2;go_ret;exact⟨by rw[HF.out];rfl,rfl⟩
 by_cases hg:8<m.length
 ·have HF:=Zh (zah (h:=m) aa);have hd1:decide ((m.length:Int)<1)=false:=by simp;omega
  have hd2:decide ((8:Int)<(m.length:Int))=true:=by simp;omega
  go_enter Tryz.func101,Tryz.ntmps101;go_wp2;go_ret;exact⟨by rw[HF.out];rfl,rfl⟩
 have hd1:decide ((m.length:Int)<1)=false:=by simp;omega
 have hd2:decide ((8:Int)<(m.length:Int))=false:=by simp;omega
 have h1:1<=m.length:=aa
 have h8:m.length<=8:=aa
 clear hz hg;go_enter Tryz.func101,Tryz.ntmps101;go_wp2;go_loop [5,20] (fun _ i=>∃k:Nat,k<=m.length/\i= .int .i64 k/\Hid (∀i,i<k->(m.getD i []).length=m.length)) (fun _ i=>m.length-(intOf i).toNat)
 case atStart=>exact⟨0,aa,rfl,Zh (fun i hi=>absurd hi aa)⟩
 case round=>
  obtain⟨k,hk,rfl,hR⟩:=hrel;by_cases hlt:k<m.length
  ·obtain⟨b,o,B,c1,rfl,e1,f1,f2,f3⟩:=h0.row_ hlt;obtain⟨ln,hln⟩:=Xz ((m.getD k []).length);rw[<-hln]at e1 f1;have HLN:=Zh hln;clear hln;by_cases hne:ln=m.length
   ·subst hne;go_wp2;refine⟨⟨k+1,aa,by go_num,Zh fun i hi=>?_⟩,by simp[intOf]<;>omega⟩;rcases Zl i k with h|h
    ·exact hR.out i h
    ·obtain rfl:i=k:=aa
     exact HLN.out.symm
   ·have hb:((ln:Int) !=(m.length:Int))=true:=by simp;omega
    have HF:=Zh (zah (h:=m) (fun hh=>hne (by rw[HLN.out];exact hh.2.2.1 k hlt)));clear hne;go_wp2;go_ret;exact⟨by rw[HF.out];rfl,rfl⟩
  ·obtain rfl:k=m.length:=aa
   clear hlt;go_wp2;go_loop [6,7,8,9,31] (fun _ _ _ _ i=>∃k:Nat,k<=m.length/\i= .int .i64 k/\Hid (∀i,i<k->∀j,j<m.length->ent m i j=ent m j i/\-262144<ent m i j/\ent m i j<262144)) (fun _ _ _ _ i=>m.length-(intOf i).toNat)
   case atStart=>exact⟨0,aa,rfl,Zh (fun i hi=>absurd hi aa)⟩
   case round=>
    obtain⟨k,hk,rfl,hE⟩:=hrel;by_cases hlt:k<m.length
    ·obtain⟨b,o,B,c1,rfl,e1,f1,f2,f3⟩:=h0.row_ hlt;rw[hR.out k hlt]at e1 f1;go_wp2;go_loop [8,9,38] (fun _ _ i=>∃q:Nat,q<=m.length/\i= .int .i64 q/\Hid (∀j,j<q->ent m k j=ent m j k/\-262144<ent m k j/\ent m k j<262144)) (fun _ _ i=>m.length-(intOf i).toNat)
     case atStart=>exact⟨0,aa,rfl,Zh (fun i hi=>absurd hi aa)⟩
     case round=>
      obtain⟨q,hq,rfl,hQ⟩:=hrel;by_cases hqt:q<m.length
      ·obtain⟨b',o',b1,o1,c2,hA,g1,g2,g3,g4,g5,g6⟩:=h0.ent_ (i:=k) (j:=q) hlt (hR.out k hlt) hqt;injection hA with hA
       injection hA with x1 x2
       subst x1 x2;rw[e1]at g1;injection g1 with g1
       injection g1 with x1 x2 x3
       subst x1 x3;obtain⟨b',o',b2,o2,c3,hA,p1,p2,p3,p4,p5,p6⟩:=h0.ent_ (i:=q) (j:=k) hqt (hR.out q hqt) hlt;injection hA with hA
       injection hA with x1 x2
       subst x1 x2;obtain⟨x,ex⟩:=Xz (ent m k q);obtain⟨y,ey⟩:=Xz (ent m q k);rw[<-ex]at g2;rw[<-ey]at p2;have EX:=Zh ex;have EY:=Zh ey;clear ex ey;by_cases hxy:x=y
       ·subst hxy;by_cases hlo:x<=-262144
        ·have HF:=Zh (zah (h:=m) (fun hh=>by have:=(hh.2.2.2 k hlt q hqt).2.1;rw[<-EX.out]at this;omega));have ztP:decide (x<=-262144)=true:=by simpa using hlo
         go_wp2;go_ret;exact⟨by rw[HF.out];rfl,rfl⟩
        ·have ztP:decide (x<=-262144)=false:=by simp;omega
         by_cases hhi:262144<=x
         ·have HF:=Zh (zah (h:=m) (fun hh=>by have:=(hh.2.2.2 k hlt q hqt).2.2;rw[<-EX.out]at this;omega));have ztQ:decide (262144<=x)=true:=by simpa using hhi
          clear hlo;go_wp2;go_ret;exact⟨by rw[HF.out];rfl,rfl⟩
         ·have ztQ:decide (262144<=x)=false:=by simp;omega
          have hx1:-262144<x:=aa
          have hx2:x<262144:=aa
          clear hlo hhi;go_wp2;refine⟨⟨q+1,aa,by go_num,Zh fun j hj=>?_⟩,by simp[intOf]<;>omega⟩;rcases Zl j q with h|h
          ·exact hQ.out j h
          ·obtain rfl:j=q:=aa
           rw[<-EX.out,<-EY.out];exact⟨rfl,hx1,hx2⟩
       ·have hb:(x !=y)=true:=by simp[hxy]
        have HF:=Zh (zah (h:=m) (fun hh=>by have:=(hh.2.2.2 k hlt q hqt).1;rw[<-EX.out,<-EY.out]at this;exact hxy this));clear hxy;go_wp2;go_ret;exact⟨by rw[HF.out];rfl,rfl⟩
      ·obtain rfl:q=m.length:=aa
       clear hqt;go_wp2;refine⟨⟨k+1,aa,by go_num,Zh fun i hi=>?_⟩,by simp[intOf]<;>omega⟩;rcases Zl i k with h|h
       ·exact hE.out i h
       ·obtain rfl:i=k:=aa
        exact hQ.out
    ·obtain rfl:k=m.length:=aa
     have HF:=Zh (zkR (h:=m) ⟨h1,h8,hR.out,hE.out⟩);clear hlt;go_wp2;go_ret;exact⟨by rw[HF.out];rfl,rfl⟩
theorem AllLen.at_(hn:AllLen m n)(hi:i<m.length):(m.getD i []).length=n:=by
 have:m.getD i []=m[i]:=by simp[List.getD,hi]
 rw[this];exact hn _ (List.getElem_mem hi)
def QU(m:List (List Int)):Bool:=decide (0<ent m 0 0/\ent m 0 0<65536/\∀i,i<m.length->1<=i->2*ent m i 0<=ent m 0 0/\-2*ent m i 0<=ent m 0 0)
theorem zbV(hh:¬(0<ent h 0 0/\ent h 0 0<65536/\∀i,i<h.length->1<=i->2*ent h i 0<=ent h 0 0/\-2*ent h i 0<=ent h 0 0)):QU h=false:=decide_eq_false hh
theorem zkS(hh:0<ent h 0 0/\ent h 0 0<65536/\∀i,i<h.length->1<=i->2*ent h i 0<=ent h 0 0/\-2*ent h i 0<=ent h 0 0):QU h=true:=decide_eq_true hh
def zfF(m:List (List Int)):Prop:=∀i,i<m.length->∀j,j<m.length->-1099511627776<=ent m i j/\ent m i j<=1099511627776
set_option maxRecDepth 10000 in
theorem zkT(h:MatA w0 A m)(h1:2<=m.length)(h8:m.length<=8)(hc:m.length<=c)(hc2:c<=9223372036854775807)(hn:AllLen m m.length)(hB:zfF m)[hx:Ext w0 w]:
  Cq 102 #[.slice A m.length c] w (Zq w (.bool (QU m))):=by
 have h0:=h.ext hx;have zwt:c≠1:=aa
 obtain⟨b,o,b1,o1,c1,rfl,e1,e2,f1,f2,f3,f4⟩:=h0.ent_ (i:=0) (j:=0) (n:=m.length) aa (hn.at_ aa) aa;have hb0:=hB 0 aa 0 aa;obtain⟨d,hd⟩:=Xz (ent m 0 0);rw[<-hd]at e2 hb0;simp only[Nat.add_zero]at e1 e2;have HD:=Zh hd;clear hd;by_cases hz:d<=0
 ·have HF:=Zh (zbV (h:=m) (fun hh=>by have:=hh.1;rw[<-HD.out]at this;omega));have hd1:decide (d<=0)=true:=by simpa using hz
  clear hz;go_enter Tryz.func102,Tryz.ntmps102;go_wp2;go_ret;exact⟨by rw[HF.out];rfl,rfl⟩
 have hd1:decide (d<=0)=false:=by simp;omega
 by_cases hg:65536<=d
 ·have HF:=Zh (zbV (h:=m) (fun hh=>by have:=hh.2.1;rw[<-HD.out]at this;omega));have hd2:decide (65536<=d)=true:=by simpa using hg
  clear hg hz;go_enter Tryz.func102,Tryz.ntmps102;go_wp2;go_ret;exact⟨by rw[HF.out];rfl,rfl⟩
 have hd2:decide (65536<=d)=false:=by simp;omega
 have hd3:0<d:=aa
 have hd4:d<65536:=aa
 clear hz hg;go_enter Tryz.func102,Tryz.ntmps102;go_wp2;go_loop [5,20] (fun _ i=>∃k:Nat,k+1<=m.length/\i= .int .i64 k/\Hid (∀i,1<=i->i<k+1->2*ent m i 0<=ent m 0 0/\-2*ent m i 0<=ent m 0 0)) (fun _ i=>m.length-(intOf i).toNat)
 case atStart=>exact⟨0,aa,rfl,Zh (fun i hi hi2=>absurd hi2 aa)⟩
 case round=>
  obtain⟨k,hk,rfl,hR⟩:=hrel;by_cases hlt:k+1<m.length
  ·obtain⟨b',o',b2,o2,c2,hA,g1,g2,g3,g4,g5,g6⟩:=h0.ent_ (i:=k+1) (j:=0) (n:=m.length) hlt (hn.at_ hlt) aa;injection hA with hA
   injection hA with x1 x2
   subst x1 x2;have hbk:=hB (k+1) hlt 0 aa;obtain⟨x,ex⟩:=Xz (ent m (k+1) 0);rw[<-ex]at g2 hbk;rw[(aa:o+(k+1)=o+1+k)]at g1;simp only[Nat.add_zero]at g2;have EX:=Zh ex;clear ex;by_cases hlo:d<2*x
   ·have HF:=Zh (zbV (h:=m) (fun hh=>by have:=(hh.2.2 (k+1) hlt aa).1;rw[<-HD.out,<-EX.out]at this;omega));have ztP:decide (d<2*x)=true:=by simpa using hlo
    clear hlo;go_wp2;go_ret;exact⟨by rw[HF.out];rfl,rfl⟩
   ·have ztP:decide (d<2*x)=false:=by simp;omega
    by_cases hhi:d< -2*x
    ·have HF:=Zh (zbV (h:=m) (fun hh=>by have:=(hh.2.2 (k+1) hlt aa).2;rw[<-HD.out,<-EX.out]at this;omega));have ztQ:decide (d< -2*x)=true:=by simpa using hhi
     clear hlo hhi;go_wp2;go_ret;exact⟨by rw[HF.out];rfl,rfl⟩
    ·have ztQ:decide (d< -2*x)=false:=by simp;omega
     have HX:=Zh hlo;have HY:=Zh hhi;clear hlo hhi;go_wp2;refine⟨⟨k+1,aa,by go_num,Zh fun i hi1 hi2=>?_⟩,by simp[intOf]<;>omega⟩;rcases Zl i (k+1) with h|h
     ·exact hR.out i hi1 h
     ·obtain rfl:i=k+1:=aa
      have:=HX.out;have:=HY.out;rw[<-HD.out,<-EX.out];omega
  ·obtain rfl:k=m.length-1:=aa
   have HF:=Zh (zkS (h:=m) ⟨by rw[<-HD.out];exact hd3,by rw[<-HD.out];exact hd4,fun i hi1 hi2=>hR.out i hi2 aa⟩);clear hlt;go_wp2;go_ret;exact⟨by rw[HF.out];rfl,rfl⟩
def qT(zd:Int)(m:List (List Int)):List (List Int):=tab (fun i j=>Int.tdiv (ent m 0 0*ent m (i+1) (j+1)-ent m (i+1) 0*ent m 0 (j+1)) zd) (m.length-1) (m.length-1)
def qI:Nat->Int->List (List Int)->Bool
 |0,_,m=>decide (0<ent m 0 0/\ent m 0 0<=10000)
 |k+1,zd,m=>QU m&&(!decide (4*(zd*ent (qT zd m) 0 0+ent m 1 0*ent m 1 0)<3*ent m 0 0*ent m 0 0)&&qI k (ent m 0 0) (qT zd m))
def zM(h:List (List Int)):Bool:=Qq h&&qI (h.length-1) 1 h
theorem qg(F:Nat->Nat->Int)(r c i j:Nat)(hi:i<r)(hj:j<c):ent (tab F r c) i j=F i j:=by
 simp[ent,tab,hi,hj]
structure SInv(zd:Int)(m:List (List Int)):Prop where
 len1:1<=m.length
 len8:m.length<=8
 all:AllLen m m.length
 sym:∀i,i<m.length->∀j,j<m.length->ent m i j=ent m j i
 za:∀i,i<m.length->∀j,j<m.length->-((393216-16384*(m.length:Int))*zd)<=ent m i j/\ent m i j<=(393216-16384*(m.length:Int))*zd
 lp:0<zd
 ll:zd<65536
theorem SInv.start(hh:Qq h=true):SInv 1 h:=by
 have hs:=of_decide_eq_true hh;refine⟨hs.1,hs.2.1,fun r hr=>?_,fun i hi j hj=>(hs.2.2.2 i hi j hj).1,fun i hi j hj=>?_,aa,aa⟩
 ·obtain⟨i,hi,rfl⟩:=List.getElem_of_mem hr;have:=hs.2.2.1 i hi;simpa[List.getD,hi] using this
 ·have h1:=(hs.2.2.2 i hi j hj).2;have h2:=hs.2.1;omega
theorem SInv.b40(h:SInv zd m):zfF m:=fun i hi j hj=>by
 have hb:=h.za i hi j hj;have h1:(393216-16384*(m.length:Int))*zd<=393216*65536:=Int.mul_le_mul aa (by have:=h.ll;omega) (by have:=h.lp;omega) aa;omega
theorem zkU{X l K:Int}(hl:0<l)(h1:-(K*l)<=X)(h2:X<=K*l):-K<=X.tdiv l/\X.tdiv l<=K:=by
 rw[tdiv_eq_if];split
 ·have a:=Int.ediv_le_of_le_mul hl h2;have b:=Int.ediv_nonneg (a:=X) (b:=l) aa aa;have:0<=K:=by
   rcases(aa:K<0∨0<=K) with h|h
   ·have:=Int.mul_neg_of_neg_of_pos h hl;omega
   ·exact h
  omega
 ·have a:=Int.ediv_le_of_le_mul hl (show-X<=K*l by omega);have b:=Int.ediv_nonneg (a:=-X) (b:=l) aa aa;have:0<=K:=by
   rcases(aa:K<0∨0<=K) with h|h
   ·have:=Int.mul_neg_of_neg_of_pos h hl;omega
   ·exact h
  omega
theorem zfG{a:Int}(h1:2*a<=d)(h2:-2*a<=d)(h3:2*b<=d)(h4:-2*b<=d):-(d*d)<=4*(a*b)/\4*(a*b)<=d*d:=by
 have p1:0<=(d-2*a)*(d+2*b):=Int.mul_nonneg aa aa;have p2:0<=(d+2*a)*(d-2*b):=Int.mul_nonneg aa aa;have p3:0<=(d-2*a)*(d-2*b):=Int.mul_nonneg aa aa;have p4:0<=(d+2*a)*(d+2*b):=Int.mul_nonneg aa aa;simp only[Int.sub_mul,Int.add_mul,Int.mul_sub,Int.mul_add]at p1 p2 p3 p4;have e1:2*a*(2*b)=4*(a*b):=by rw[Int.mul_assoc,Int.mul_left_comm a 2 b,<-Int.mul_assoc];rfl
 have e2:d*(2*b)=2*(d*b):=by rw[Int.mul_left_comm]
 have e3:2*a*d=2*(a*d):=by rw[Int.mul_assoc]
 rw[e1,e2,e3]at p1 p2 p3 p4;omega
theorem zkV{a B:Int}(hd0:0<d)(hd1:d<65536)(ha:2*a<=d/\-2*a<=d)(hb:2*b<=d/\-2*b<=d)(hx:-(B*zd)<=x/\x<=B*zd)(hlp:0<zd)(hll:zd<65536)(hB0:0<=B)(hB2:B<=376832):
  -((B+16384)*d*zd)<=d*x-a*b/\d*x-a*b<=(B+16384)*d*zd/\-4294967296<=a*b/\a*b<=4294967296/\-(4503599627370496)<=d*x/\d*x<=4503599627370496:=by
 have hm:=zfG ha.1 ha.2 hb.1 hb.2;have hdd:d*d<=65536*d:=Int.mul_le_mul_of_nonneg_right aa aa;have hdl:d<=d*zd:=by
  have:=Int.mul_le_mul_of_nonneg_left (a:=1) (b:=zd) (c:=d) aa aa;omega
 have q1:d*x<=d*(B*zd):=Int.mul_le_mul_of_nonneg_left hx.2 aa;have q2:d*-(B*zd)<=d*x:=Int.mul_le_mul_of_nonneg_left hx.1 aa;have e1:(B+16384)*d*zd=d*(B*zd)+16384*(d*zd):=by
  rw[Int.mul_assoc,Int.add_mul,Int.mul_left_comm d B zd]
 have hBl:B*zd<=376832*65536:=Int.mul_le_mul hB2 aa aa aa;have q3:d*(B*zd)<=65536*(376832*65536):=Int.mul_le_mul aa hBl (Int.mul_nonneg hB0 aa) aa;rw[Int.mul_neg]at q2;rw[e1];omega
theorem SInv.nums(h:SInv zd m)(hs:QU m=true)(hi:i+1<m.length)(hj:j+1<m.length):
  -((409600-16384*(m.length:Int))*ent m 0 0*zd)<=ent m 0 0*ent m (i+1) (j+1)-ent m (i+1) 0*ent m 0 (j+1)/\ent m 0 0*ent m (i+1) (j+1)-ent m (i+1) 0*ent m 0 (j+1)<=(409600-16384*(m.length:Int))*ent m 0 0*zd/\
  -4294967296<=ent m (i+1) 0*ent m 0 (j+1)/\ent m (i+1) 0*ent m 0 (j+1)<=4294967296/\-(4503599627370496)<=ent m 0 0*ent m (i+1) (j+1)/\ent m 0 0*ent m (i+1) (j+1)<=4503599627370496:=by
 have hsh:=of_decide_eq_true hs;obtain⟨hd0,hd1,zsH⟩:=hsh;have ha:=zsH (i+1) hi aa;have hb:=zsH (j+1) hj aa;rw[<-h.sym 0 aa (j+1) hj]at hb;rw[(aa:(409600-16384*(m.length:Int))=(393216-16384*(m.length:Int))+16384)];have hl8:=h.len8;have hl1:=h.len1;exact zkV hd0 hd1 ha hb (h.za (i+1) hi (j+1) hj) h.lp h.ll aa aa
theorem SInv.next(h:SInv zd m)(h2:2<=m.length)(hs:QU m=true):SInv (ent m 0 0) (qT zd m):=by
 have hsh:=of_decide_eq_true hs;have hl:(qT zd m).length=m.length-1:=zr _ _ _;refine⟨aa,by have:=h.len8;omega,by rw[hl];exact Qa _ _ _,fun i hi j hj=>?_,fun i hi j hj=>?_,hsh.1,hsh.2.1⟩
 ·rw[hl]at hi hj;unfold qT;rw[qg _ _ _ _ _ hi hj,qg _ _ _ _ _ hj hi,h.sym (i+1) aa (j+1) aa,h.sym (i+1) aa 0 aa,h.sym 0 aa (j+1) aa,Int.mul_comm (ent m 0 (i+1))]
 ·rw[hl]at hi hj;have hn:=h.nums hs (i:=i) (j:=j) aa aa;rw[hl];unfold qT;rw[qg _ _ _ _ _ hi hj];have:=zkU h.lp hn.1 hn.2.1;rw[(aa:(393216-16384*((m.length-1:Nat):Int))=409600-16384*(m.length:Int))];exact this
def lenOf:Value->Nat
 | .slice _ n _=>n
 |_=>0
theorem zfH(hs:Qq h=false):zM h=false:=by simp[zM,hs]
theorem zkW(hs:Qq h=true):zM h=qI (h.length-1) 1 h:=by simp[zM,hs]
theorem MatA.rowAt(h:MatA w A m)(hi:i<m.length)(hl:(m.getD i []).length=n)(hn:0<n):
  ∃b o b1 o1 c,A=some ⟨b,o,none⟩/\n<=c/\c<=9223372036854775807/\∀w',Ext w w'->w'.cell? ⟨b,o+i,none⟩=some (.slice (some ⟨b1,o1,none⟩) n c)/\b<w'.heap.size/\b1<w'.heap.size/\∀j,j<n->w'.cell? ⟨b1,o1+j,none⟩=some (.int .i64 (ent m i j)):=by
 have hr:m[i]? =some m[i]:=af
 have hl':m[i].length=n:=by simpa[List.getD,hi] using hl
 obtain⟨b,o,B0,c,hA,hc,hI,h1,h2,hb⟩:=h.at_ hr;rw[hl']at hc h1;obtain⟨b1,o1,x0,rfl,-,-,hb1⟩:=hI.at_ (i:=0) aa;refine⟨b,o,b1,o1,c,hA,h1,h2,fun w' hx=>⟨?_,Nat.lt_of_lt_of_le hb hx.size,Nat.lt_of_lt_of_le hb1 hx.size,fun j hj=>?_⟩⟩
 ·rw[hx.below.cell (p:=⟨b,o+i,none⟩) hb];exact hc
 ·obtain⟨b2,o2,x,hB,hx2,zsU,-⟩:=hI.at_ (i:=j) aa;injection hB with hB
  injection hB with e1 e2
  subst e1 e2;have he:ent m i j=x:=zaf hr hx2;rw[he,hx.below.cell (p:=⟨b1,o1+j,none⟩) hb1];exact zsU
theorem SInv.at0(h:SInv zd m)(hn:n=m.length)(hi:i<n):(m.getD i []).length=n:=by
 rw[hn];exact h.all.at_ aa
theorem Heads1.full{F:Nat->Nat->Int}{zc:Nat}(hc:cols<=9223372036854775807)(h:Heads1 w G F zc cols zc):Mat64 w (some ⟨G,0,none⟩) (tab F zc cols):=by
 obtain⟨hd,v1,v2,v3,v4⟩:=h;refine⟨hd,by rw[v2,zr],v1.arr,fun i r hr=>?_⟩;have hi:i<zc:=by
  rcases Zl i zc with hi|hi
  ·exact hi
  ·rw[List.getElem?_eq_none (by rw[zr];exact hi)]at hr;cases hr
 rw[QT _ _ _ _ hi]at hr;injection hr with hr
 subst hr;obtain⟨B,b1,b2⟩:=v3 i hi;exact⟨B,cols,by simpa using b1,b2,af,hc⟩
theorem zkX(h:QU m=false):qI (k+1) zd m=false:=by simp[qI,h]
theorem zkY(h:decide (4*(zd*ent (qT zd m) 0 0+ent m 1 0*ent m 1 0)<3*ent m 0 0*ent m 0 0)=true):qI (k+1) zd m=false:=by simp only[qI,h,Bool.not_true,Bool.false_and,Bool.and_false]
theorem zkZ(hs:QU m=true)(h:decide (4*(zd*ent (qT zd m) 0 0+ent m 1 0*ent m 1 0)<3*ent m 0 0*ent m 0 0)=false):qI (k+1) zd m=qI k (ent m 0 0) (qT zd m):=by simp only[qI,hs,h,Bool.not_false,Bool.true_and]
set_option maxRecDepth 10000 in
theorem zai(h:MatA w0 A m)(zss:m.length<=1099511627776)(hc:m.length<=c)(hc2:c<=9223372036854775807)[hx:Ext w0 w]:
  Cq 44 #[.slice A m.length c] w (zA w (.bool (zM m))):=by
 have h0:=h.ext hx
 cases hs:Qq m
 ·have HF:=Zh (zfH hs);go_enter Tryz.func44,Tryz.ntmps44;go_wp2_with fail
  refine(zfE h zss).mono ?_;rintro e w' ⟨rfl,rfl⟩;rw[hs];go_wp2;go_ret;exact⟨by rw[HF.out];rfl,Step.of _ _⟩
 have HR:=Zh (zkW hs);have HI:=Zh (SInv.start hs);go_enter Tryz.func44,Tryz.ntmps44;go_wp2_with fail
 refine(zfE h zss).mono ?_;rintro e w' ⟨rfl,rfl⟩;rw[hs];clear hs;go_wp2;go_loopw [3,4,5,6,7,8,9,10] (fun s l _ _ _ _ _ _ wr=>∃A1 c1 m1 zd,s= .slice A1 m1.length c1/\l= .int .i64 zd/\MatA wr A1 m1/\m1.length<=c1/\c1<=9223372036854775807/\Hid (SInv zd m1)/\Hid (zM m=qI (m1.length-1) zd m1)/\Ext w wr) (fun s _ _ _ _ _ _ _ _=>lenOf s)
 case atStart=>exact⟨_,_,m,1,rfl,rfl,h0,hc,hc2,HI,HR,Zi⟩
 case round=>
  obtain⟨A1,c1,m1,zd,rfl,rfl,hm,k1,k2,hI,hR,hxr⟩:=hrel;clear h0 h hc hc2 HI HR zss hx;obtain⟨wo,rfl⟩:∃wo:World,wo=wr:=⟨_,rfl⟩;have hl1:=hI.out.len1;have hl8:=hI.out.len8;obtain⟨n,hn⟩:=Xz m1.length;by_cases hlt:2<=n
  ·obtain⟨b,o,b1,o1,c2,rfl,f1,f2,E1⟩:=hm.rowAt (i:=0) (n:=n) aa (hI.out.at0 hn aa) aa;obtain⟨e1,f3,f4,e2'⟩:=E1 wo Zi;have e2:=e2' 0 aa;clear e2';have HE1:=Zh E1;clear E1;obtain⟨r,rfl⟩:∃r,n=r+1:=⟨n-1,aa⟩;have hdb:=hI.out.b40 0 aa 0 aa;have zsD:=zkT (w:=wo) hm (c:=c1) aa aa k1 k2 hI.out.all hI.out.b40;have hcut:m1.length-1=(r-1)+1:=aa
   rw[hcut]at hR;rw[<-hn]at zsD k1;rw[<-hn];obtain⟨d,hd⟩:=Xz (ent m1 0 0);rw[<-hd]at e2 hdb;simp only[Nat.add_zero]at e1 e2;have HN:=Zh hn;have HD:=Zh hd;clear hn hd hl1 hcut;have hr1:1<=r:=aa
   have hr8:r<=7:=by have:=HN.out;omega
   clear hl8 hlt;have HC:=Zh zsD;clear zsD
   cases hsh:QU m1
   ·have HV:=Zh (hR.out.trans (zkX hsh));rw[hsh]at HC;clear hR hI hsh;go_wp2_with fail
    refine HC.out.mono ?_;rintro e w' ⟨rfl,rfl⟩;go_wp2;go_ret;exact⟨by rw[HV.out];rfl,Step.of _ _⟩
   rw[hsh]at HC;have HS:=Zh hsh;clear hsh;have hmk:=ZH (P:=Tryz.prog) Tryz.underlying25 qe aa (r:Int) aa aa;have zs0:=ZH (P:=Tryz.prog) Tryz.underlying34 qb aa (r:Int) aa aa;go_wp2_with fail
   refine HC.out.mono ?_;rintro e w' ⟨rfl,rfl⟩;go_wp2;obtain⟨F,hF⟩:∃F:Nat->Nat->Int,F=fun i j=>Int.tdiv (ent m1 0 0*ent m1 (i+1) (j+1)-ent m1 (i+1) 0*ent m1 0 (j+1)) zd:=⟨_,rfl⟩
   have HF:=Zh hF;clear hF;go_loopw [7,8,9,32] (fun _ _ _ i wr=>∃k:Nat,k<=r/\i= .int .i64 k/\Heads1 wr wo.heap.size F r r k/\Ext wo wr) (fun _ _ _ i _=>r-(intOf i).toNat)
   case atStart=>exact⟨0,aa,rfl,by simpa using Heads1.made wo F r r,Zi⟩
   case round=>
    obtain⟨k,hk,rfl,hH,hxk⟩:=hrel;by_cases zsM:k<r
    ·obtain⟨hd,v1,v2,v3,v4⟩:=hH;have hc1:=v1.cell (v4 k Zr zsM);have hc2:=v1.frozen k;have hsz:=v1.lt;obtain⟨wi,rfl⟩:∃wi:World,wi=wr:=⟨_,rfl⟩;have V2:=Zh v2;have V3:=Zh v3;have V4:=Zh v4;clear v2 v3 v4;obtain⟨b',o',b2,o2,c3,hA,g3,g4,G1⟩:=hm.rowAt (i:=k+1) (n:=r+1) (by have:=HN.out;omega) (hI.out.at0 HN.out aa) aa;injection hA with hA
     injection hA with x1 x2
     subst x1 x2;obtain⟨g1,g5,g6,-⟩:=G1 wi hxk;have HG1:=Zh G1;clear G1;go_wp2;go_loopw [9,48] (fun _ j wr=>∃q:Nat,q<=r/\j= .int .i64 q/\Grow wo.heap.size 34 wi wr/\VRow wr wo.heap.size 34 (hd.set k (.slice (some ⟨wi.heap.size,0,none⟩) r r))/\Cells1 wr wi.heap.size (F k) r q/\Ext wo wr) (fun _ j _=>r-(intOf j).toNat)
     case atStart=>
      refine⟨0,aa,rfl,?_,?_,?_,?_⟩
      ·exact((Grow.refl _ _ _).setOld (p:=⟨wo.heap.size,k,none⟩) v1 Zr rfl _).alloc hxk.size _
      ·exact(v1.set _ _).ext Zi
      ·have:=Cells1.made (wi.setCell ⟨wo.heap.size,k,none⟩ (.slice (some ⟨wi.heap.size,0,none⟩) r r)) (F k) r;rw[ZE,Nat.mul_one]at this;exact this
      ·exact Zi
     case round=>
      obtain⟨q,hq,rfl,hG,hV,hC,hxq⟩:=hrel;by_cases hlt:q<r
      ·have hkl:k<hd.length:=by have:=V2.out;omega
       have zsr:wr.cell? ⟨wo.heap.size,k,none⟩=some (.slice (some ⟨wi.heap.size,0,none⟩) r r):=hV.cell (by rw[List.getElem?_set_self hkl]);obtain⟨q1,q2,q3⟩:=hC.cells hlt;obtain⟨p1,p2,p3,p4⟩:=HE1.out wr hxq;obtain⟨t1,t2,t3,t4⟩:=HG1.out wr hxq;have p5:=p4 (q+1) aa;have t5:=t4 (q+1) aa;have t6:=t4 0 aa;clear p4 t4;have zuD:=hI.out.nums HS.out (i:=k) (j:=q) (by have:=HN.out;omega) (by have:=HN.out;omega)
       have hFk:Hid (F k q=Int.tdiv (ent m1 0 0*ent m1 (k+1) (q+1)-ent m1 (k+1) 0*ent m1 0 (q+1)) zd):=Zh (by rw[HF.out]);rw[<-HD.out]at zuD hFk;obtain⟨y,hy⟩:=Xz (ent m1 (k+1) (q+1));obtain⟨a,ha⟩:=Xz (ent m1 (k+1) 0);obtain⟨z,hz⟩:=Xz (ent m1 0 (q+1));rw[<-hy,<-ha,<-hz]at zuD hFk;rw[<-hz]at p5;rw[<-hy]at t5;rw[<-ha]at t6;simp only[Nat.add_zero]at t6 p1;obtain⟨-,-,n1,n2,n3,n4⟩:=zuD
       have hlp:1<=zd:=hI.out.lp;have hll:=hI.out.ll;clear hy ha hz;have hne:wo.heap.size≠wi.heap.size:=aa
       have ztm:(hd.set k (.slice (some ⟨wi.heap.size,0,none⟩) r r))[k]? =some (.slice (some ⟨wi.heap.size,0,none⟩) r r):=by rw[List.getElem?_set_self hkl]
       have HNE:=Zh hne;have HSE:=Zh ztm;clear hne ztm;go_wp2;go_region
       rw[<-hFk.out];go_wp2;refine⟨⟨q+1,aa,by go_num,?_,?_,?_,?_⟩,by simp[intOf]<;>omega⟩
       ·exact(hG.trans (Zi:Ext wr wr.drew) hxk.size).setNew (p:=⟨wi.heap.size,q,none⟩) Zr hxk.size _
       ·exact(hV.ext (Zi:Ext wr wr.drew)).far (p:=⟨wi.heap.size,q,none⟩) HNE.out _
       ·exact(hC.ext (Zi:Ext wr wr.drew)).put hlt
       ·exact(Zi:Ext wo wr.drew).setCell (p:=⟨wi.heap.size,q,none⟩) hxk.size _
      ·obtain rfl:q=r:=aa
       have ztr:=Zh hC.full;go_wp2;refine⟨⟨k+1,aa,by go_num,⟨_,hV,by rw[List.length_set];exact V2.out,fun i hi=>?_,fun i hi1 hi2=>?_⟩,hxq⟩,by simp[intOf]<;>omega⟩
       ·have hkl:k<hd.length:=by have:=V2.out;omega
        rcases Zl i k with h|h
        ·obtain⟨B,y1,y2⟩:=V3.out i h;exact⟨B,by rw[List.getElem?_set_ne aa];exact y1,y2.grow hG ac⟩
        ·obtain rfl:i=k:=aa
         exact⟨_,by rw[List.getElem?_set_self hkl],ztr.out⟩
       ·rw[List.getElem?_set_ne aa];exact V4.out i aa hi2
    ·obtain rfl:k=r:=aa
     clear zsM;have hNx:tab F k k=qT zd m1:=by
      unfold qT;rw[HF.out,<-HN.out];rfl
     have hNM:=(hH.full aa).a;rw[hNx]at hNM;have hINx:=Zh (hI.out.next (by have:=HN.out;omega) HS.out);have hlenN:(qT zd m1).length=k:=by rw[<-hNx,zr]
     obtain⟨b',o',b3,o3,c4,hA,g3,g4,G1⟩:=hNM.rowAt (i:=0) (n:=k) aa (hINx.out.at0 hlenN.symm aa) aa;injection hA with hA
     injection hA with x1 x2
     subst x1 x2;obtain⟨g1,g5,g6,g7⟩:=G1 wr Zi;have g8:=g7 0 aa;clear g7 G1;obtain⟨b',o',b2,o2,c3,hA,y3,y4,G1⟩:=hm.rowAt (i:=1) (n:=k+1) (by have:=HN.out;omega) (hI.out.at0 HN.out aa) aa;injection hA with hA
     injection hA with x1 x2
     subst x1 x2;obtain⟨y1,y5,y6,y7⟩:=G1 wr hxk;have y8:=y7 0 aa;clear y7 G1;have hxb:=hINx.out.za 0 aa 0 aa;have hsh:=of_decide_eq_true HS.out;have hla:=hsh.2.2 1 (by have:=HN.out;omega) aa;have hd0:=hsh.1;have hd1:=hsh.2.1;have hon:=fun h=>hR.out.trans (zkZ HS.out h)
     have ztA:=fun h=>hR.out.trans (zkY h)
     clear hR;rw[hlenN]at hxb;rw[<-HD.out]at hxb hla hd0 hd1 hon ztA;simp only[Nat.add_zero]at g1 g8 y8;obtain⟨x,ex⟩:=Xz (ent (qT zd m1) 0 0);obtain⟨z,ez⟩:=Xz (ent m1 1 0);rw[<-ex]at hxb hon ztA g8;rw[<-ez]at hla hon ztA y8;have hlp:1<=zd:=hI.out.lp;have hll:=hI.out.ll;have hzz:=zfG hla.1 hla.2 hla.1 hla.2;have hdd:d*d<=65536*65536:=Int.mul_le_mul aa aa aa aa
     have hKd:(393216-16384*(k:Int))*d<=393216*65536:=Int.mul_le_mul aa aa aa aa;have hx1:-25769803776<=x:=aa
     have hx2:x<=25769803776:=aa
     have zxQ:zd*x<=65536*25769803776:=Int.le_trans (Int.mul_le_mul_of_nonneg_left hx2 aa) (Int.mul_le_mul_of_nonneg_right aa aa);have zxR:-(65536*25769803776)<=zd*x:=by
      have e1:=Int.mul_le_mul_of_nonneg_left (c:=zd) hx1 aa;have e2:zd*25769803776<=65536*25769803776:=Int.mul_le_mul_of_nonneg_right aa aa;omega
     have zxS:z*z<=4294967296:=aa
     have zxT:-4294967296<=z*z:=aa
     have hd3:3*d*d<=3*4294967296:=by rw[Int.mul_assoc];omega
     have hd4:0<=3*d*d:=Int.mul_nonneg aa aa;have HON:=Zh hon;have zrU:=Zh ztA;have HX:=Zh ex;have HZ:=Zh ez;have HL:=Zh hlenN;have HM:=Zh hNM;clear hon ztA ex ez hlenN hNM hNx hsh hH hxb hKd hdd hzz hla
     cases zua:decide (4*(zd*x+z*z)<3*d*d)
     ·go_wp2;refine⟨⟨some ⟨wo.heap.size,0,none⟩,k,qT zd m1,d,by rw[HL.out],rfl,HM.out,by rw[HL.out];exact Zr,aa,?_,?_,hxr.trans hxk⟩,by simp[lenOf]<;>omega⟩
      ·rw[HD.out];exact hINx
      ·have:=HON.out zua;exact Zh (by rw[this,HL.out])
     ·have HV:=Zh (zrU.out zua);go_wp2;go_ret;have:Ext w wr:=hxr.trans hxk;exact⟨by rw[HV.out];rfl,Step.of _ _⟩
  ·obtain⟨b,o,b1,o1,c2,rfl,e1,e2,f1,f2,f3,f4⟩:=hm.ent_ (i:=0) (j:=0) (n:=1) aa (by rw[hI.out.all.at_ aa];omega) aa;have hn1:m1.length=1:=aa
   have hb:=hI.out.b40 0 aa 0 aa;have HV:Hid (zM m=decide (0<ent m1 0 0/\ent m1 0 0<=10000)):=Zh (by rw[hR.out,hn1];rfl);clear hR;obtain⟨x,ex⟩:=Xz (ent m1 0 0);rw[<-ex]at e2 hb HV;rw[hn1];simp only[Nat.add_zero]at e1 e2;rw[hn1]at k1;have EX:=Zh ex;clear ex hn hl1 hl8 hlt hn1;by_cases hz:0<x
   ·have hzb:decide (0<x)=true:=by simpa using hz
    have hlb:=Zh (show decide (x<=10000)=decide (0<x/\x<=10000) by simp[hz]);clear hz;go_wp2;go_ret;exact⟨by rw[HV.out,<-hlb.out];rfl,Step.of _ _⟩
   ·have hzb:decide (0<x)=false:=by simpa using hz
    have hlb:=Zh (show decide (0<x/\x<=10000)=false by simp[hz]);clear hz;go_wp2;go_ret;exact⟨by rw[HV.out,hlb.out];rfl,Step.of _ _⟩
end Go.Proofs.YtgoaelchibpffaaGreat

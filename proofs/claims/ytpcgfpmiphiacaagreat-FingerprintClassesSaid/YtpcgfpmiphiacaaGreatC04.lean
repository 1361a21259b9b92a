import Derived.Test.YtpcgfpmiphiacaaGreatC03
import Derived.Deep.DeepCutAuto
set_option maxHeartbeats 8000000
set_option linter.unusedVariables false
set_option linter.unusedSimpArgs false
namespace Go.Proofs.YtpcgfpmiphiacaaGreat
open Go.RowKit
variable {cs:Array Value} {na:Bool} {a b d x ze:Int} {h m:List (List Int)} {E G L c cols i j k n pb zd zf:Nat} {fr:Nat×Nat} {A B:Option Addr} {e:TypeId} {w w' w0:World}
def HeadsT(w:World)(G E:Nat)(zd cols k:Nat):Prop:=
 ∃hd:List Value,VRow w G 94 hd/\hd.length=zd/\(∀i,i<k->hd[i]? =some (.slice (some ⟨E,i*cols*2,none⟩) cols cols))/\∀i,k<=i->i<zd->hd[i]? =some (.slice none 0 0)
theorem HeadsT.made(w:World)(E zd cols:Nat):HeadsT (w.alloc (.cells (Zb #[.slice none 0 0] (zd*1)) 94)) w.heap.size E zd cols 0:=by
 refine⟨_,VRow.new w _ _,?_,fun i hi=>absurd hi (by omega),fun i _ hi=>?_⟩
 ·rw[zac];omega
 ·rw[jw,Nat.mul_one,List.getElem?_replicate];simp[hi]
theorem HeadsT.cell(h:HeadsT w G E zd cols k)(hk:k<zd):w.cell? ⟨G,k,none⟩=some (.slice none 0 0)/\w.frozen? ⟨G,k,none⟩=false/\G<w.heap.size:=by
 obtain⟨hd,h1,h2,h3,h4⟩:=h;exact⟨h1.cell (h4 k Zr hk),h1.frozen _,h1.lt⟩
theorem HeadsT.put(h:HeadsT w G E zd cols k)(hk:k<zd):HeadsT (w.setCell ⟨G,k,none⟩ (.slice (some ⟨E,k*cols*2,none⟩) cols cols)) G E zd cols (k+1):=by
 obtain⟨hd,h1,h2,h3,h4⟩:=h;refine⟨_,h1.set k _,by simp[h2],fun i hi=>?_,fun i hi1 hi2=>?_⟩
 ·rcases Zl i k with h|h
  ·rw[List.getElem?_set_ne (by omega)];exact h3 i h
  ·obtain rfl:i=k:=by omega
   rw[List.getElem?_set_self (by omega)]
 ·rw[List.getElem?_set_ne (by omega)];exact h4 i (by omega) hi2
theorem HeadsT.row(h:HeadsT w G E zd cols (k+1)):w.cell? ⟨G,k,none⟩=some (.slice (some ⟨E,k*cols*2,none⟩) cols cols):=by
 obtain⟨hd,h1,h2,h3,h4⟩:=h;exact h1.cell (h3 k (Nat.lt_succ_self k))
theorem HeadsT.rowM{m:Nat}(h:HeadsT w G E zd cols (k+1))(hm:m=k*cols):w.cell? ⟨G,k,none⟩=some (.slice (some ⟨E,m*2,none⟩) cols cols):=by rw[hm];exact h.row
theorem HeadsT.ext(h:HeadsT w G E zd cols k)(hx:Ext w w'):HeadsT w' G E zd cols k:=by
 obtain⟨hd,h1,h2⟩:=h;exact⟨hd,h1.ext hx,h2⟩
theorem HeadsT.far(h:HeadsT w G E zd cols k){p:Addr}(hp:G≠p.block)(u:Value):HeadsT (w.setCell p u) G E zd cols k:=by
 obtain⟨hd,h1,h2⟩:=h;exact⟨hd,h1.far hp u,h2⟩
theorem HeadsT.heap(h:HeadsT w G E zd cols k):∃cs,w.heap[G]? =some (.cells cs 94 (0,0)):=by
 obtain⟨hd,h1,h2⟩:=h;exact⟨_,h1⟩
theorem Cells2.part{g:Nat}{F:Nat->Int}{N:Nat}(h:Cells2 w g F N N)(a n:Nat)(ha:a+n<=N):IntsV w (some ⟨g,a*2,none⟩) ((List.range n).map fun j=>F (a+j)):=by
 obtain⟨cs,h1,h2,h3,h4⟩:=h;refine⟨(cs.drop (a*2)).take (n*2),by simp;omega,fun h0=>?_,fun i z hz=>?_⟩
 ·refine⟨g,a*2,cs.toArray,(0,0),rfl,h1,fun j u hu=>?_⟩;rw[List.getElem?_take]at hu;split at hu
  ·rw[List.getElem?_drop]at hu;simpa using hu
  ·cases hu
 ·have hi:i<n:=by
   rcases Zl i n with hi|hi
   ·exact hi
   ·rw[List.getElem?_eq_none (by simpa using hi)]at hz;cases hz
  simp[hi]at hz;subst hz;obtain⟨s,B,m,c,a1,a2,a3⟩:=h3 (a+i) (by omega);refine⟨s,B,m,c,?_,?_,a3⟩
  ·rw[List.getElem?_take,if_pos (by omega),List.getElem?_drop,<-Nat.add_mul];exact a1
  ·rw[List.getElem?_take,if_pos (by omega),List.getElem?_drop,<-Nat.add_assoc,<-Nat.add_mul];exact a2
theorem zfs(F:Nat->Nat->Int)(k q cols:Nat)(hq:q<cols):F ((k*cols+q) / cols) ((k*cols+q)%cols)=F k q:=by
 rw[Nat.mul_comm,Nat.mul_add_div (by omega),Nat.div_eq_of_lt hq,Nat.mul_add_mod,Nat.mod_eq_of_lt hq,Nat.add_zero]
def zku(X:Nat->Prop)(w:World)(A:Option Addr)(zs:List Int):Prop:=IntsV w A zs/\(0<zs.length->∃b o,A=some ⟨b,o,none⟩/\X b)
def MatX(X:Nat->Prop)(w:World)(A:Option Addr)(m:List (List Int)):Prop:=
 ∃vs:List Value,vs.length=m.length/\Arr w A 94 vs/\∀(i:Nat)(r:List Int),m[i]? =some r->∃B c,vs[i]? =some (.slice B r.length c)/\zku X w B r/\r.length<=c/\c<=9223372036854775807
theorem MatX.mat{X:Nat->Prop}(h:MatX X w A m):MatV w A m:=by
 obtain⟨vs,h1,h2,h3⟩:=h;refine⟨vs,h1,h2,fun i r hr=>?_⟩;obtain⟨B,c,a1,a2,a3⟩:=h3 i r hr;exact⟨B,c,a1,a2.1,a3⟩
theorem MatX.mono{X Y:Nat->Prop}(h:MatX X w A m)(hxy:∀b,X b->Y b):MatX Y w A m:=by
 obtain⟨vs,h1,h2,h3⟩:=h;refine⟨vs,h1,h2,fun i r hr=>?_⟩;obtain⟨B,c,a1,a2,a3⟩:=h3 i r hr;refine⟨B,c,a1,⟨a2.1,fun h0=>?_⟩,a3⟩;obtain⟨b,o,e,hx⟩:=a2.2 h0;exact⟨b,o,e,hxy b hx⟩
theorem MatV.old(h:MatV w A m):MatX (·<w.heap.size) w A m:=by
 obtain⟨vs,h1,h2,h3⟩:=h;refine⟨vs,h1,h2,fun i r hr=>?_⟩;obtain⟨B,c,a1,a2,a3⟩:=h3 i r hr;refine⟨B,c,a1,⟨a2,fun h0=>?_⟩,a3⟩;obtain⟨b,o,g,B',n,c',e,_,_,_,hb⟩:=a2.at_ h0;exact⟨b,o,e,hb⟩
theorem MatX.ext{X:Nat->Prop}(h:MatX X w A m)(hx:Ext w w'):MatX X w' A m:=by
 obtain⟨vs,h1,h2,h3⟩:=h;refine⟨vs,h1,h2.ext hx,fun i r hr=>?_⟩;obtain⟨B,c,a1,a2,a3⟩:=h3 i r hr;exact⟨B,c,a1,⟨a2.1.ext hx,a2.2⟩,a3⟩
theorem MatX.grow{X:Nat->Prop}(h:MatX X w A m)(hg:Grow zf e w w')(h0:94≠e)(h1:149≠e)(h2:271≠e):MatX X w' A m:=by
 obtain⟨vs,a1,a2,a3⟩:=h;refine⟨vs,a1,a2.grow hg h0,fun i r hr=>?_⟩;obtain⟨B,c,b1,b2,b3⟩:=a3 i r hr;exact⟨B,c,b1,⟨b2.1.grow hg h1 h2,b2.2⟩,b3⟩
theorem MatX.setBox(h:MatX (·≠L) w A m)(hL:w.heap[L]? =some (.cells cs 149 fr))(i:Nat)(u:Value):MatX (·≠L) (w.setCell ⟨L,i,none⟩ u) A m:=by
 obtain⟨vs,a1,a2,a3⟩:=h;refine⟨vs,a1,a2.setCell (p:=⟨L,i,none⟩) hL (by decide) u,fun k r hr=>?_⟩;obtain⟨B,c,b1,b2,b3⟩:=a3 k r hr;refine⟨B,c,b1,⟨?_,b2.2⟩,b3⟩;obtain⟨ws,c1,c2,c3⟩:=b2.1;refine⟨ws,c1,fun h0=>?_,fun j z hz=>?_⟩
 ·have zsc:0<r.length:=by omega
  obtain⟨b,o,hB,hne⟩:=b2.2 zsc;obtain⟨b',o',cs',fr',hB',hh,hc⟩:=c2 h0;rw[hB]at hB';injection hB' with hB'
  injection hB' with e1 e2
  subst e1 e2;exact⟨b,o,cs',fr',hB,(Below.heap_setCell w ⟨L,i,none⟩ u b hne).trans hh,hc⟩
 ·obtain⟨g,B',n,c',d1,d2,d3⟩:=c3 j z hz;exact⟨g,B',n,c',d1,d2,d3.setCell (p:=⟨L,i,none⟩) hL (by decide) u⟩
def zkv(w:World)(m:List (List Int))(e:Ending)(w':World):Prop:=∃A c,e= .returned (.slice A m.length c)/\MatX (w.heap.size<=·) w' A m/\m.length<=c/\c<=9223372036854775807/\Step w w'
set_option maxRecDepth 10000 in
theorem zft(f:FuncId)(caps:Array Value)(zd cols:Nat)(h1:zd<=1000)(h2:cols<=1000)(hc:1<=cols)(hf:qJ f)(F:Nat->Nat->Int)
  (H:∀(i j:Nat)(W:World),i<zd->j<cols->Ext w W->Cq f (#[.int .i64 i,.int .i64 j]++caps) W (zD W (F i j))):
  Cq 240 #[.int .i64 zd,.int .i64 cols,.func (.func f) #[] caps] w (zkv w (tab F zd cols)):=by
 have hp1:zd*cols<=1000000:=Nat.mul_le_mul h1 h2;obtain⟨N,hN⟩:=Xz (zd*cols);have hp2:(zd:Int)*(cols:Int)=(N:Int):=by rw[hN];simp
 rw[<-hN]at hp1;have hmk:=qf (P:=Tryz.prog) Tryz.underlying94 jd (by omega) (N:Int) (by omega) (by omega);have ztd:=qf (P:=Tryz.prog) Tryz.underlying79 zaW (by omega) (zd:Int) (by omega) (by omega);have HH:=Zh H;have HF:=Zh hf;have HN:=Zh hN;clear H hf hN;obtain⟨L,hL⟩:∃L:Nat->Int,L=fun t=>F (t / cols) (t%cols):=⟨_,rfl⟩
 have HL:=Zh hL;clear hL;go_enter Tryz.func240,Tryz.ntmps240;go_wp2;go_loopw [9,10,19] (fun _ _ i wr=>∃k:Nat,k<=zd/\i= .int .i64 k/\Cells2 wr w.heap.size L N (k*cols)/\HeadsT wr (w.heap.size+1) w.heap.size zd cols k/\Ext w wr) (fun _ _ i _=>zd-(intOf i).toNat)
 case atStart=>
  refine⟨0,by omega,rfl,?_,?_,Zi⟩
  ·have:=(Cells2.made w L N).ext (Zi:Ext _ ((w.alloc (.cells (Zb #[.bool false,.slice none 0 0] (N*2)) 149)).alloc (.cells (Zb #[.slice none 0 0] (zd*1)) 94)));simpa[Value.cells] using this
  ·have:=HeadsT.made (w.alloc (.cells (Zb #[.bool false,.slice none 0 0] (N*2)) 149)) w.heap.size zd cols;simpa[Value.cells] using this
 case round=>
  obtain⟨k,hk,rfl,hC,hH,hxr⟩:=hrel;by_cases zss:k<zd
  ·obtain⟨m,hm⟩:=Xz (k*cols);have hm1:(k:Int)*(cols:Int)=(m:Int):=by rw[hm];simp
   have hm2:((k:Int)+1)*(cols:Int)=(m:Int)+(cols:Int):=by rw[Int.add_mul,hm1];omega
   have hm3:m+cols<=N:=by rw[hm,HN.out,<-Nat.succ_mul];exact Nat.mul_le_mul_right _ zss
   have HM:=Zh hm;rw[<-hm]at hC;clear hm;obtain⟨hc1,hc2,hsz⟩:=hH.cell zss;have hH':=hH.put zss;rw[<-HM.out]at hH';have hC':Cells2 (wr.setCell ⟨w.heap.size+1,k,none⟩ (.slice (some ⟨w.heap.size,m*2,none⟩) cols cols)) w.heap.size L N m:=by
    obtain⟨cs,hcs⟩:=hH.heap;exact hC.far (p:=⟨w.heap.size+1,k,none⟩) hcs (by decide) (by decide) _
   have hx':Ext w (wr.setCell ⟨w.heap.size+1,k,none⟩ (.slice (some ⟨w.heap.size,m*2,none⟩) cols cols)):=Zi;go_wp2;simp only[Nat.add_sub_cancel_left];go_loopw [10,43] (fun _ j wr=>∃q:Nat,q<=cols/\j= .int .i64 q/\Cells2 wr w.heap.size L N (m+q)/\HeadsT wr (w.heap.size+1) w.heap.size zd cols (k+1)/\Ext w wr) (fun _ j _=>cols-(intOf j).toNat)
   case atStart=>exact⟨0,by omega,rfl,hC',hH',hx'⟩
   case round=>
    clear hC hH hxr hC' hH' hx' hc1 hc2 hsz;obtain⟨q,hq,rfl,hC,hH,hxr⟩:=hrel;by_cases hlt:q<cols
    ·have zr6:=hH.row;rw[<-HM.out]at zr6;obtain⟨c1,c2,c3,c4,c5⟩:=hC.cells (show m+q<N by omega);rw[Nat.add_mul]at c1 c2 c3 c4;have hFq:=Zh (show L (m+q)=F k q by rw[HL.out,HM.out];exact zfs F k q cols hlt);have hcf:=HF.out;unfold qJ at hcf;go_wp2;go_region_held3 (fun w'=>w'.cell? ⟨w.heap.size+1,k,none⟩=some (.slice (some ⟨w.heap.size,m*2,none⟩) cols cols))
      (first
       |exact(hH.ext Zi).rowM HM.out
       |exact(((hH.ext Zi).far (p:=⟨w.heap.size,m*2+q*2,none⟩) (show w.heap.size+1≠w.heap.size by omega) _).far (p:=⟨w.heap.size,m*2+q*2+1,none⟩) (show w.heap.size+1≠w.heap.size by omega) _).rowM HM.out)
      (first
       |(refine(HH.out _ _ _ zss hlt Zi).mono ?_;rintro e w2 ⟨g,B,k',d,rfl,hz,hs2⟩;obtain⟨d1,d2,d3,d4,d5⟩:=(hC.ext (Zi:Ext wr w2)).cells (show m+q<N by omega);rw[Nat.add_mul]at d1 d2 d3 d4))
     go_wp2;refine⟨⟨q+1,by omega,by go_num,?_,?_,Zi⟩,by simp[intOf]<;>omega⟩
     ·have h9:=(hC.ext (Zi:Ext wr w2)).put (show m+q<N by omega) (by rw[hFq.out];exact hz);rw[Nat.add_mul]at h9;exact h9
     ·exact((hH.ext (Zi:Ext wr w2)).far (p:=⟨w.heap.size,m*2+q*2,none⟩) (show w.heap.size+1≠w.heap.size by omega) _).far (p:=⟨w.heap.size,m*2+q*2+1,none⟩) (show w.heap.size+1≠w.heap.size by omega) _
    ·obtain rfl:q=cols:=by omega
     rw[HM.out,<-Nat.succ_mul]at hC;go_wp2;exact⟨⟨k+1,by omega,by go_num,hC,hH,hxr⟩,by simp[intOf]<;>omega⟩
  ·obtain rfl:k=zd:=by omega
   rw[<-HN.out]at hC;have HHd:=Zh hH;clear hH;go_wp2;go_ret;obtain⟨hd,v1,v2,v3,v4⟩:=HHd.out;refine⟨_,k,by rw[zw];rfl,⟨hd,by rw[v2,zw],v1.arr,fun i r hr=>?_⟩,by rw[zw];omega,by omega,hxr.toStep⟩;have hi:i<k:=by
    rcases Zl i k with hi|hi
    ·exact hi
    ·rw[List.getElem?_eq_none (by rw[zw];exact hi)]at hr;cases hr
   rw[QR _ _ _ _ hi]at hr;injection hr with hr
   subst hr;have hle:i*cols+cols<=N:=by rw[HN.out,<-Nat.succ_mul];exact Nat.mul_le_mul_right _ hi
   have hp:=hC.part (i*cols) cols hle;have he:((List.range cols).map fun j=>L (i*cols+j))=(List.range cols).map fun j=>F i j:=by
    apply List.map_congr_left;intro j hj;rw[HL.out];exact zfs F i j cols (List.mem_range.1 hj)
   rw[he]at hp;exact⟨_,cols,by simpa using v3 i hi,⟨hp,fun _=>⟨_,_,rfl,Zr⟩⟩,by simp,by omega⟩
theorem IntV.len2{neg:Bool}{z:Int}(h:IntV w neg A n c z)(hz:z.natAbs<18446744073709551616):n<=2:=h.len (k:=2) (by omega)
theorem zkw(ha:IntV w0 na A n c x)(h1:n<=1099511627776)[hx:Ext w0 w]:
  Cq 242 #[.agg #[.bool na,.slice A n c]] w (zD w x):=by
 have HE:=Zh (show zq na (x.natAbs:Int)=x by rw[ha.neg_eq];unfold zq;split<;>simp_all<;>omega);go_enter Tryz.func242,Tryz.ntmps242;go_wp2;go_region_held3 (fun w'=>w'.cell? ⟨w.heap.size,0,none⟩=some (.bool na)/\w'.cell? ⟨w.heap.size,1,none⟩=some (.slice A n c)) (exact QQ w _ _ _ 149)
  (first
   |(go_at_call 223;refine(Qa ha).mono ?_;rintro e w' ⟨rfl,rfl⟩)
   |(go_at_call 274;refine(zfm ha.nat h1).mono ?_;intro e w3 hr;obtain⟨B3,n3,d3,rfl,hn3,hs3⟩:=NatV.of_ret hr;clear hr)
   |(go_at_call 255;refine(JI na hn3).mono ?_;rintro e w2 ⟨g,B2,k2,d2,rfl,hz,hs2⟩;obtain⟨q0,q1,q2,q3,q4,q5⟩:=zaS w w2 (.cells #[.bool na,.slice A n c] 149) (.bool false) (.slice none 0 0) 149))
 have Q0:=Zh q0;clear q0;go_wp2;exact bodyPost_ret (v:= .agg #[.bool g,.slice B2 k2 d2]) (by simp[results,Tryz.results242,go_sem,q1,q2]) rfl ⟨_,_,_,_,rfl,hz.boxedN HE.out (by decide) Q0.out _ _,Step.of _ _⟩
def ent(m:List (List Int))(i j:Nat):Int:=(m.getD i []).getD j 0
theorem JL{r:List Int}(hr:m[i]? =some r)(hx:r[j]? =some x):ent m i j=x:=by
 simp[ent,List.getD,hr,hx]
theorem MatV.ent_(h:MatV w A m)(hn:AllLen m n)(hi:i<m.length)(hj:j<n):
  ∃b o b1 o1 c g B k d,A=some ⟨b,o,none⟩/\w.cell? ⟨b,o+i,none⟩=some (.slice (some ⟨b1,o1,none⟩) n c)/\w.cell? ⟨b1,o1+j*2,none⟩=some (.bool g)/\w.cell? ⟨b1,o1+j*2+1,none⟩=some (.slice B k d)/\IntV w g B k d (ent m i j)/\n<=c/\c<=9223372036854775807/\b<w.heap.size/\b1<w.heap.size:=by
 have hr:m[i]? =some m[i]:=by simp
 have hl:m[i].length=n:=hn _ (List.getElem_mem hi);obtain⟨b,o,B0,c,hA,hc,hI,h1,h2,hb⟩:=h.at_ hr;obtain⟨b1,o1,g,B,k,d,rfl,c1,c2,hV,hb1⟩:=hI.at_ (i:=j) (by omega);have he:ent m i j=m[i][j]'(by omega):=JL hr (by simp);rw[he];rw[hl]at hc h1;exact⟨b,o,b1,o1,c,g,B,k,d,hA,hc,c1,c2,hV,h1,h2,hb,hb1⟩
theorem zkx(h:MatV w0 A m)(hn:AllLen m n)(i j:Nat)(hi:i<m.length)(hj:j<n)(zr7:(ent m i j).natAbs<18446744073709551616)
  (hp:w.cell? ⟨pb,0,none⟩=some (.slice A m.length c)) (hpb:pb<w.heap.size) [hx:Ext w0 w]:
  Cq 241 #[.int .i64 i,.int .i64 j,.pointer (some ⟨pb,0,none⟩)] w (zD w (ent m i j)):=by
 obtain⟨b,o,b1,o1,c1,g,B,k,d,rfl,e1,e2,e3,hV,e4,e5,e6,e7⟩:=(h.ext hx).ent_ hn hi hj;have hk:=hV.len2 zr7;go_enter Tryz.func241,Tryz.ntmps241;go_wp2_with fail
 refine(zkw hV (by omega)).mono ?_;rintro e w2 ⟨g2,B2,k2,d2,rfl,hz,hs2⟩;obtain⟨q0,q1,q2,q3,q4,q5⟩:=qR w w2 (.bool false) (.slice none 0 0) 149;have Q0:=Zh q0;clear q0;go_wp2;exact bodyPost_ret (v:= .agg #[.bool g2,.slice B2 k2 d2]) (by simp[results,Tryz.results241,go_sem,q1,q2]) rfl ⟨_,_,_,_,rfl,hz.boxed (by decide) Q0.out _ _,Step.of _ _⟩
theorem zky(h:MatV w0 A m)(h1:1<=m.length)(h2:m.length<=16)(hn:AllLen m m.length)[hx:Ext w0 w]:
  Cq 239 #[.slice A m.length c] w (Zv w (.tuple #[.int .i64 m.length,.bool true])):=by
 go_enter Tryz.func239,Tryz.ntmps239;go_wp2_with (go_at_call 273;refine(zkq h m.length h1 h2 h1 h2 hn).mono ?_;rintro e w' ⟨rfl,rfl⟩)
 go_ret2
 exact⟨rfl,rfl⟩
theorem zkz(w w':World)(x0 y0 x1 y1 x2 y2 x3 y3 x4 y4 x5 y5:Value)(T:TypeId)[h:Ext ((((((w.alloc (.cells #[x0,y0] T)).alloc (.cells #[x1,y1] T)).alloc (.cells #[x2,y2] T)).alloc (.cells #[x3,y3] T)).alloc (.cells #[x4,y4] T)).alloc (.cells #[x5,y5] T)) w']:
  w'.cell? ⟨w.heap.size,0,none⟩=some x0/\w'.cell? ⟨w.heap.size,1,none⟩=some y0/\w'.cell? ⟨w.heap.size+1,0,none⟩=some x1/\w'.cell? ⟨w.heap.size+1,1,none⟩=some y1/\
  w'.cell? ⟨w.heap.size+1+1,0,none⟩=some x2/\w'.cell? ⟨w.heap.size+1+1,1,none⟩=some y2/\w'.cell? ⟨w.heap.size+1+1+1,0,none⟩=some x3/\w'.cell? ⟨w.heap.size+1+1+1,1,none⟩=some y3/\
  w'.cell? ⟨w.heap.size+1+1+1+1,0,none⟩=some x4/\w'.cell? ⟨w.heap.size+1+1+1+1,1,none⟩=some y4:=by
 have e1:Ext (w.alloc (.cells #[x0,y0] T)) w':=Ext.trans Zi h;have e2:Ext ((w.alloc (.cells #[x0,y0] T)).alloc (.cells #[x1,y1] T)) w':=Ext.trans Zi h;have e3:Ext (((w.alloc (.cells #[x0,y0] T)).alloc (.cells #[x1,y1] T)).alloc (.cells #[x2,y2] T)) w':=Ext.trans Zi h;have e4:Ext ((((w.alloc (.cells #[x0,y0] T)).alloc (.cells #[x1,y1] T)).alloc (.cells #[x2,y2] T)).alloc (.cells #[x3,y3] T)) w':=Ext.trans Zi h
 have e5:Ext (((((w.alloc (.cells #[x0,y0] T)).alloc (.cells #[x1,y1] T)).alloc (.cells #[x2,y2] T)).alloc (.cells #[x3,y3] T)).alloc (.cells #[x4,y4] T)) w':=Ext.trans Zi h;obtain⟨_,a1,a2,_⟩:=qR w w' x0 y0 T;obtain⟨_,b1,b2,_⟩:=Jd (w.alloc (.cells #[x0,y0] T)) w' (w.heap.size+1) x1 y1 T (by simp);obtain⟨_,c1,c2,_⟩:=Jd ((w.alloc (.cells #[x0,y0] T)).alloc (.cells #[x1,y1] T)) w' (w.heap.size+1+1) x2 y2 T (by simp)
 obtain⟨_,d1,d2,_⟩:=Jd (((w.alloc (.cells #[x0,y0] T)).alloc (.cells #[x1,y1] T)).alloc (.cells #[x2,y2] T)) w' (w.heap.size+1+1+1) x3 y3 T (by simp);obtain⟨_,f1,f2,_⟩:=Jd ((((w.alloc (.cells #[x0,y0] T)).alloc (.cells #[x1,y1] T)).alloc (.cells #[x2,y2] T)).alloc (.cells #[x3,y3] T)) w' (w.heap.size+1+1+1+1) x4 y4 T (by simp);exact⟨a1,a2,b1,b2,c1,c2,d1,d2,f1,f2⟩
set_option maxRecDepth 10000 in
theorem zkA{wa wb wc wd we:World}{nb nc nd ne:Bool}{C D E:Option Addr}{ka kb kc kd ke ca cb cc cd ce:Nat}{c v:Int}
  (ha:IntV wa na A ka ca a) (hb:IntV wb nb B kb cb b) (hc:IntV wc nc C kc cc c) (hd:IntV wd nd D kd cd d) (he:IntV we ne E ke ce v)
  (ba:a.natAbs<18446744073709551616) (bb:b.natAbs<18446744073709551616) (bc:c.natAbs<18446744073709551616) (bd:d.natAbs<18446744073709551616) (b1:(a*d).natAbs<18446744073709551616) (b2:(b*c).natAbs<18446744073709551616)
  (b3:(a*d-b*c).natAbs<18446744073709551616) (hv:v≠0) (bv:v.natAbs<18446744073709551616) [xa:Ext wa w] [xb:Ext wb w] [xc:Ext wc w] [xd:Ext wd w] [xe:Ext we w]:
  Cq 245 #[.agg #[.bool na,.slice A ka ca],.agg #[.bool nb,.slice B kb cb],.agg #[.bool nc,.slice C kc cc],.agg #[.bool nd,.slice D kd cd],.agg #[.bool ne,.slice E ke ce]] w (zD w ((a*d-b*c) / v)):=by
 have la:=ha.len2 ba;have lb:=hb.len2 bb;have lc:=hc.len2 bc;have ld:=hd.len2 bd;go_enter Tryz.func245,Tryz.ntmps245;go_upto_region 1 with fail
 have hst:Step w ((((((w.alloc (.cells #[.bool na,.slice A ka ca] 149)).alloc (.cells #[.bool nb,.slice B kb cb] 149)).alloc (.cells #[.bool nc,.slice C kc cc] 149)).alloc (.cells #[.bool nd,.slice D kd cd] 149)).alloc (.cells #[.bool ne,.slice E ke ce] 149)).alloc (.cells #[.bool false,.slice none 0 0] 149)):=Step.of _ _;have hbx:=zkz w ((((((w.alloc (.cells #[.bool na,.slice A ka ca] 149)).alloc (.cells #[.bool nb,.slice B kb cb] 149)).alloc (.cells #[.bool nc,.slice C kc cc] 149)).alloc (.cells #[.bool nd,.slice D kd cd] 149)).alloc (.cells #[.bool ne,.slice E ke ce] 149)).alloc (.cells #[.bool false,.slice none 0 0] 149)) (.bool na) (.slice A ka ca) (.bool nb) (.slice B kb cb) (.bool nc) (.slice C kc cc) (.bool nd) (.slice D kd cd) (.bool ne) (.slice E ke ce) (.bool false) (.slice none 0 0) 149
 have hrb:=Jd (((((w.alloc (.cells #[.bool na,.slice A ka ca] 149)).alloc (.cells #[.bool nb,.slice B kb cb] 149)).alloc (.cells #[.bool nc,.slice C kc cc] 149)).alloc (.cells #[.bool nd,.slice D kd cd] 149)).alloc (.cells #[.bool ne,.slice E ke ce] 149)) ((((((w.alloc (.cells #[.bool na,.slice A ka ca] 149)).alloc (.cells #[.bool nb,.slice B kb cb] 149)).alloc (.cells #[.bool nc,.slice C kc cc] 149)).alloc (.cells #[.bool nd,.slice D kd cd] 149)).alloc (.cells #[.bool ne,.slice E ke ce] 149)).alloc (.cells #[.bool false,.slice none 0 0] 149)) (w.heap.size+1+1+1+1+1) (.bool false) (.slice none 0 0) 149 (by simp)
 generalize ((((((w.alloc (.cells #[.bool na,.slice A ka ca] 149)).alloc (.cells #[.bool nb,.slice B kb cb] 149)).alloc (.cells #[.bool nc,.slice C kc cc] 149)).alloc (.cells #[.bool nd,.slice D kd cd] 149)).alloc (.cells #[.bool ne,.slice E ke ce] 149)).alloc (.cells #[.bool false,.slice none 0 0] 149))=W at hst hbx hrb|-
 obtain⟨q0,q1,q2,q3,q4,q5⟩:=hrb;have o0:Old w.heap.size W:=⟨by omega⟩;have o1:Old (w.heap.size+1) W:=⟨by omega⟩;have o2:Old (w.heap.size+1+1) W:=⟨by omega⟩;have o3:Old (w.heap.size+1+1+1) W:=⟨by omega⟩;have o4:Old (w.heap.size+1+1+1+1) W:=⟨by omega⟩;have o5:Old (w.heap.size+1+1+1+1+1) W:=⟨by omega⟩;have HB:=Zh hbx;have Q0:=Zh q0;have Q1:=Zh q1;have Q2:=Zh q2;have Q3:=Zh q3;have Q4:=Zh q4;clear hbx q0 q1 q2 q3 q4 q5
 go_cut [11] (fun s11 wx=>∃(p:Nat) (g:Bool) (B':Option Addr) (k' d':Nat),s11= .pointer (some ⟨p,0,none⟩)/\wx.cell? ⟨p,0,none⟩=some (.bool g)/\wx.cell? ⟨p,1,none⟩=some (.slice B' k' d')/\IntV wx g B' k' d' ((a*d-b*c) / v)/\Ext W wx)
 case first=>
  go_region_held3 (fun w'=>w'.cell? ⟨w.heap.size,0,none⟩=some (.bool na)/\w'.cell? ⟨w.heap.size,1,none⟩=some (.slice A ka ca)/\w'.cell? ⟨w.heap.size+1,0,none⟩=some (.bool nb)/\w'.cell? ⟨w.heap.size+1,1,none⟩=some (.slice B kb cb)/\w'.cell? ⟨w.heap.size+1+1,0,none⟩=some (.bool nc)/\w'.cell? ⟨w.heap.size+1+1,1,none⟩=some (.slice C kc cc)/\w'.cell? ⟨w.heap.size+1+1+1,0,none⟩=some (.bool nd)/\w'.cell? ⟨w.heap.size+1+1+1,1,none⟩=some (.slice D kd cd)/\w'.cell? ⟨w.heap.size+1+1+1+1,0,none⟩=some (.bool ne)/\w'.cell? ⟨w.heap.size+1+1+1+1,1,none⟩=some (.slice E ke ce))
   ((simp only[zi W];exact HB.out))
   (first
    |(go_at_call_of 258 (Value.slice A ka ca);refine(zfh ha hd (by omega) (by omega)).mono ?_;rintro e w1 ⟨g1,B1,k1,d1,rfl,hz1,hs1⟩)
    |(go_at_call_of 258 (Value.slice B kb cb);refine(zfh hb hc (by omega) (by omega)).mono ?_;rintro e w2 ⟨g2,B2,k2,d2,rfl,hz2,hs2⟩)
    |(go_at_call 257;refine(zkc hz1 hz2 (by have:=hz1.len2 b1;omega) (by have:=hz2.len2 b2;omega)).mono ?_;rintro e w3 ⟨g3,B3,k3,d3,rfl,hz3,hs3⟩)
    |(go_at_call 259;refine(zkk hz3 he b3 hv bv).mono ?_;rintro e w4 ⟨g4,B4,k4,d4,g5,B5,k5,d5,rfl,hz4,hz5,hs4⟩))
  all_goals (go_wp2_with fail;go_meet;exact⟨_,g4,B4,k4,d4,rfl,by go_simp,by go_simp,hz4.keeps,Zi⟩)
 case rest=>
  obtain⟨p,g,B',k',d',rfl,hp1,hp2,hz,hxx⟩:=hcut;have r0:=zj hxx Q0.out;have r1:wc.cell? ⟨w.heap.size+1+1+1+1+1,0,none⟩=some (.bool false):=(zi W).trans Q1.out;have r2:wc.cell? ⟨w.heap.size+1+1+1+1+1,1,none⟩=some (.slice none 0 0):=(zi W).trans Q2.out;have r3:wc.frozen? ⟨w.heap.size+1+1+1+1+1,0,none⟩=false:=(qc W).trans Q3.out;have r4:wc.frozen? ⟨w.heap.size+1+1+1+1+1,1,none⟩=false:=(qc W).trans Q4.out
  have R0:=Zh r0;clear r0;go_wp2;exact bodyPost_ret (v:= .agg #[.bool g,.slice B' k' d']) (by simp[results,Tryz.results245,go_sem,r1,r2]) rfl ⟨_,_,_,_,rfl,hz.boxed (by decide) R0.out _ _,(((hst.ext.trans hxx).setCell (p:=⟨w.heap.size+1+1+1+1+1,0,none⟩) (show w.heap.size<=w.heap.size+1+1+1+1+1 by omega) _).setCell (p:=⟨w.heap.size+1+1+1+1+1,1,none⟩) (show w.heap.size<=w.heap.size+1+1+1+1+1 by omega) _).toStep⟩
def zc3(ze:Int)(b:List (List Int))(i j:Nat):Prop:=
 (ent b 0 0).natAbs<18446744073709551616/\(ent b (i+1) 0).natAbs<18446744073709551616/\(ent b 0 (j+1)).natAbs<18446744073709551616/\(ent b (i+1) (j+1)).natAbs<18446744073709551616/\
 (ent b 0 0*ent b (i+1) (j+1)).natAbs<18446744073709551616/\(ent b (i+1) 0*ent b 0 (j+1)).natAbs<18446744073709551616/\
 (ent b 0 0*ent b (i+1) (j+1)-ent b (i+1) 0*ent b 0 (j+1)).natAbs<18446744073709551616/\ze≠0/\ze.natAbs<18446744073709551616
set_option maxRecDepth 10000 in
theorem zkB{lb:Nat}{gl:Bool}{Bl:Option Addr}{kl dl:Nat}(h:MatV w0 A m)(hl:IntV w0 gl Bl kl dl ze)(hn:AllLen m n)(hm:m.length=n)(zxK:n<=16)(i j:Nat)(hi:i+1<n)(hj:j+1<n)(hok:zc3 ze m i j)
  (hp:w.cell? ⟨pb,0,none⟩=some (.slice A m.length c)) (hpb:pb<w.heap.size) (hl1:w.cell? ⟨lb,0,none⟩=some (.bool gl)) (hl2:w.cell? ⟨lb,1,none⟩=some (.slice Bl kl dl)) (hlb:lb<w.heap.size) [hx:Ext w0 w]:
  Cq 244 #[.int .i64 i,.int .i64 j,.pointer (some ⟨pb,0,none⟩),.pointer (some ⟨lb,0,none⟩)] w (zD w ((ent m 0 0*ent m (i+1) (j+1)-ent m (i+1) 0*ent m 0 (j+1)) / ze)):=by
 have h0:=h.ext hx;obtain⟨b,o,b1,o1,c1,g1,B1,k1,d1,rfl,e1,e2,e3,hV1,f1,f2,f3,f4⟩:=h0.ent_ (i:=0) (j:=0) hn (by omega) (by omega);obtain⟨b',o',b2,o2,c2,g2,B2,k2,d2,hA,e4,e5,e6,hV2,f5,f6,f7,f8⟩:=h0.ent_ (i:=i+1) (j:=0) hn (by omega) (by omega);injection hA with hA
 injection hA with x1 x2
 subst x1 x2;obtain⟨b',o',b3,o3,c3,g3,B3,k3,d3,hA,e7,e8,e9,hV3,f9,f10,f11,f12⟩:=h0.ent_ (i:=0) (j:=j+1) hn (by omega) (by omega);injection hA with hA
 injection hA with x1 x2
 subst x1 x2;rw[e1]at e7;injection e7 with e7
 injection e7 with x1 x2 x3
 injection x1 with x1
 injection x1 with x1 x4
 subst x1 x4 x3;obtain⟨b',o',b4,o4,c4,g4,B4,k4,d4,hA,e10,e11,e12,hV4,f13,f14,f15,f16⟩:=h0.ent_ (i:=i+1) (j:=j+1) hn (by omega) (by omega);injection hA with hA
 injection hA with x1 x2
 subst x1 x2;rw[e4]at e10;injection e10 with e10
 injection e10 with x1 x2 x3
 injection x1 with x1
 injection x1 with x1 x4
 subst x1 x4 x3;simp only[Nat.add_zero,Nat.zero_mul]at e1 e2 e3 e5 e6;have w1:IntKind.i64.wrap ((i:Int)+1)=(i:Int)+1:=by rw[IntKind.wrap_i64];omega
 have w2:IntKind.i64.wrap ((j:Int)+1)=(j:Int)+1:=by rw[IntKind.wrap_i64];omega
 have w3:((i:Int)+1).toNat=i+1:=by omega
 have w4:((j:Int)+1).toNat=j+1:=by omega
 have w5:(0:Int)<=(i:Int)+1:=by omega
 have w6:(0:Int)<=(j:Int)+1:=by omega
 have w7:(i:Int)+1<(n:Int):=by omega
 have w8:(j:Int)+1<(n:Int):=by omega
 have w9:(0:Int)<(n:Int):=by omega
 have w10:0<n:=by omega
 have oa:Old b w:=⟨f3⟩;have ob:Old b1 w:=⟨f4⟩;have oc:Old b2 w:=⟨f8⟩;have od:Old pb w:=⟨hpb⟩;have oe:Old lb w:=⟨hlb⟩;obtain⟨k01,k02,k03,k04,k05,k06,k07,k08,k09⟩:=hok;rw[hm]at hp;have HS:=Zh (show w.cell? ⟨pb,0,none⟩=some (.slice (some ⟨b,o,none⟩) n c)/\w.cell? ⟨b,o,none⟩=some (.slice (some ⟨b1,o1,none⟩) n c1)/\w.cell? ⟨b,o+(i+1),none⟩=some (.slice (some ⟨b2,o2,none⟩) n c2)/\w.cell? ⟨b1,o1,none⟩=some (.bool g1)/\w.cell? ⟨b1,o1+1,none⟩=some (.slice B1 k1 d1)/\w.cell? ⟨b2,o2,none⟩=some (.bool g2)/\w.cell? ⟨b2,o2+1,none⟩=some (.slice B2 k2 d2)/\w.cell? ⟨b1,o1+(j+1)*2,none⟩=some (.bool g3)/\w.cell? ⟨b1,o1+(j+1)*2+1,none⟩=some (.slice B3 k3 d3)/\w.cell? ⟨b2,o2+(j+1)*2,none⟩=some (.bool g4)/\w.cell? ⟨b2,o2+(j+1)*2+1,none⟩=some (.slice B4 k4 d4)/\w.cell? ⟨lb,0,none⟩=some (.bool gl)/\w.cell? ⟨lb,1,none⟩=some (.slice Bl kl dl) from ⟨hp,e1,e4,e2,e3,e5,e6,e8,e9,e11,e12,hl1,hl2⟩)
 clear hp e1 e4 e2 e3 e5 e6 e8 e9 e11 e12 hl1 hl2 h0;have HN:=Zh hn;have HM:=Zh hm;clear hn hm;go_enter Tryz.func244,Tryz.ntmps244;go_wp2;go_region_held3 (fun w'=>w'.cell? ⟨pb,0,none⟩=some (.slice (some ⟨b,o,none⟩) n c)/\w'.cell? ⟨b,o,none⟩=some (.slice (some ⟨b1,o1,none⟩) n c1)/\w'.cell? ⟨b,o+(i+1),none⟩=some (.slice (some ⟨b2,o2,none⟩) n c2)/\w'.cell? ⟨b1,o1,none⟩=some (.bool g1)/\w'.cell? ⟨b1,o1+1,none⟩=some (.slice B1 k1 d1)/\w'.cell? ⟨b2,o2,none⟩=some (.bool g2)/\w'.cell? ⟨b2,o2+1,none⟩=some (.slice B2 k2 d2)/\w'.cell? ⟨b1,o1+(j+1)*2,none⟩=some (.bool g3)/\w'.cell? ⟨b1,o1+(j+1)*2+1,none⟩=some (.slice B3 k3 d3)/\w'.cell? ⟨b2,o2+(j+1)*2,none⟩=some (.bool g4)/\w'.cell? ⟨b2,o2+(j+1)*2+1,none⟩=some (.slice B4 k4 d4)/\w'.cell? ⟨lb,0,none⟩=some (.bool gl)/\w'.cell? ⟨lb,1,none⟩=some (.slice Bl kl dl))
  ((simp only[zi w];exact HS.out))
  (first
   |(go_at_call 245;refine(zkA hV1 hV2 hV3 hV4 hl k01 k02 k03 k04 k05 k06 k07 k08 k09).mono ?_;rintro e wz ⟨gz,Bz,kz,dz,rfl,hz,hsz⟩))
 go_wp2;exact bodyPost_ret (v:= .agg #[.bool gz,.slice Bz kz dz]) (by simp[results,Tryz.results244,go_sem]) rfl ⟨_,_,_,_,rfl,hz.keeps,Step.of _ _⟩
def jU(ze:Int)(b:List (List Int)):List (List Int):=tab (fun i j=>(ent b 0 0*ent b (i+1) (j+1)-ent b (i+1) 0*ent b 0 (j+1)) / ze) (b.length-1) (b.length-1)
def zo(m:List (List Int)):Nat->Int×List (List Int)
 |0=>(1,m)
 |k+1=>(ent (zo m k).2 0 0,jU (zo m k).1 (zo m k).2)
theorem Qm(F:Nat->Nat->Int)(r c:Nat):AllLen (tab F r c) c:=by
 intro x hx;simp only[tab,List.mem_map]at hx;obtain⟨i,_,rfl⟩:=hx;simp
theorem ZU(m:List (List Int)):∀k,(zo m k).2.length=m.length-k
 |0=>rfl
 |k+1=>by simp only[zo,jU];rw[zw,ZU m k];omega
theorem zad(m:List (List Int))(hn:AllLen m m.length):∀k,AllLen (zo m k).2 (m.length-k)
 |0=>hn
 |k+1=>by
  have h:=Qm (fun i j=>(ent (zo m k).2 0 0*ent (zo m k).2 (i+1) (j+1)-ent (zo m k).2 (i+1) 0*ent (zo m k).2 0 (j+1)) / (zo m k).1) ((zo m k).2.length-1) ((zo m k).2.length-1);rw[ZU]at h;simp only[zo,jU];rw[ZU,show m.length-(k+1)=m.length-k-1 by omega];exact h
structure ElimOK(m:List (List Int)):Prop where
 small:∀i j,i<m.length->j<m.length->(ent m i j).natAbs<18446744073709551616
 pivot:∀k,k+1<m.length->ent (zo m k).2 0 0≠0
 cross:∀k i j,i+1<m.length-k->j+1<m.length-k->zc3 (zo m k).1 (zo m k).2 i j
def Qv(m:List (List Int)):List (List (List Int)):=(List.range m.length).map fun k=>(zo m k).2
def zkC(w:World)(s:List (List (List Int)))(b:Bool)(e:Ending)(w':World):Prop:=∃A c,e= .returned (.tuple #[.slice A s.length c,.bool b])/\StV w' A s/\s.length<=c/\c<=9223372036854775807/\Step w w'
theorem zkD:qJ 241:=JJ Tryz.func241 (by kernel_rfl) (by kernel_rfl)
theorem zkE:qJ 244:=JJ Tryz.func244 (by kernel_rfl) (by kernel_rfl)
theorem zfu(m:List (List Int))(n:Nat)(hn:AllLen m n):tab (ent m) m.length n=m:=JK m n hn
def Sofar(w:World)(zf L:Nat)(m:List (List Int))(A:Option Addr)(k c:Nat):Prop:=
 ∃hd:List Value,Own w zf 79 1 A k c hd/\∀i,i<k->∃B d,hd[i]? =some (.slice B (m.length-i) d)/\MatX (·≠L) w B (zo m i).2/\m.length-i<=d/\d<=9223372036854775807
theorem Sofar.ext(h:Sofar w zf L m A k c)(hx:Ext w w'):Sofar w' zf L m A k c:=by
 obtain⟨hd,h1,h2⟩:=h;refine⟨hd,h1.ext hx,fun i hi=>?_⟩;obtain⟨B,d,a1,a2,a3⟩:=h2 i hi;exact⟨B,d,a1,a2.ext hx,a3⟩
theorem Grow.heap{e':TypeId}(h:Grow zf e w w'){b:Nat}(hb:w.heap[b]? =some (.cells cs e' fr))(hne:e'≠e):w'.heap[b]? =some (.cells cs e' fr):=
 (h.typed b (zF hb) fun cs' fr' hh=>by rw[hb]at hh;injection hh with hh;injection hh with _ he;exact hne he).trans hb
theorem Sofar.put{W:World}{A':Option Addr}{c' d:Nat}{hd:List Value}(zr5:Own w zf 79 1 A k c hd)
  (hhd:∀i,i<k->∃B d,hd[i]? =some (.slice B (m.length-i) d)/\MatX (·≠L) w B (zo m i).2/\m.length-i<=d/\d<=9223372036854775807)
  (hM:MatX (·≠L) w B (zo m k).2) (hd1:m.length-k<=d) (hd2:d<=9223372036854775807) (hx:Ext w W) (hg:Grow zf 79 W w') (zwi:Own w' zf 79 1 A' (k+1) c' (hd++[.slice B (m.length-k) d])):Sofar w' zf L m A' (k+1) c':=by
 have zr7:hd.length=k:=by have:=zr5.len;omega
 refine⟨_,zwi,fun i hi=>?_⟩;rcases Zl i k with h|h
 ·obtain⟨B',d',a1,a2,a3⟩:=hhd i h;exact⟨B',d',by rw[List.getElem?_append_left (by omega)];exact a1,(a2.ext hx).grow hg (by decide) (by decide) (by decide),a3⟩
 ·obtain rfl:i=k:=by omega
  exact⟨B,d,by rw[List.getElem?_append_right (by omega),zr7];simp,(hM.ext hx).grow hg (by decide) (by decide) (by decide),hd1,hd2⟩
theorem Sofar.setBox(h:Sofar w zf L m A k c)(hL:w.heap[L]? =some (.cells cs 149 fr))(i:Nat)(u:Value):Sofar (w.setCell ⟨L,i,none⟩ u) zf L m A k c:=by
 obtain⟨hd,⟨h1,h1'⟩,h2⟩:=h;refine⟨hd,⟨h1,?_⟩,fun i hi=>?_⟩
 ·rcases h1' with hv|⟨g,cap,cur,hv,a1,a2,a3⟩
  ·exact .inl hv
  ·refine .inr ⟨g,cap,cur,hv,a1,?_,a3⟩;refine(Below.heap_setCell w ⟨L,i,none⟩ u g (fun hh=>?_)).trans a2;have hh':g=L:=hh;rw[hh']at a2;rw[hL]at a2;injection a2 with a2
   injection a2 with _ he
   exact absurd he (by decide)
 ·obtain⟨B,d,a1,a2,a3⟩:=h2 i hi;exact⟨B,d,a1,a2.setBox hL _ _,a3⟩
set_option maxRecDepth 10000 in
theorem zfv(h:MatV w0 A m)(h1:1<=m.length)(h2:m.length<=16)(hn:AllLen m m.length)(hok:ElimOK m)[hx:Ext w0 w]:
  Cq 199 #[.slice A m.length c] w (zkC w (Qv m) true):=by
 have zuB:=zft (w:=w.alloc (.cells #[.slice A m.length c] 79)) 241 #[.pointer (some ⟨w.heap.size,0,none⟩)] m.length m.length (by omega) (by omega) h1 zkD (ent m)
  (fun i j W hi hj hW=>by
   obtain⟨-,a1,a2,a3⟩:=zaY w W w.heap.size (.slice A m.length c) 79 rfl;have:Ext w W:=Ext.trans Zi hW;have:Ext w0 W:=hx.trans this;exact zkx h hn i j hi hj (hok.small i j hi hj) a1 a3)
 rw[zfu m _ hn]at zuB;have HT:=Zh zuB;have HO:=Zh hok;have HN:=Zh hn;clear zuB hok;go_enter Tryz.func199,Tryz.ntmps199;go_wp2_with fail
 go_step3
 go_wp2_with fail
 refine(zky h h1 h2 hn).mono ?_;rintro e w' ⟨rfl,rfl⟩;clear hn;go_wp2_with fail
 refine HT.out.mono ?_;rintro e w1 ⟨A1,c1,rfl,hm1,hc1,hc2,hs1⟩;go_wp2_with fail
 refine(zcU 1 (by omega) (by omega) _).mono ?_;rintro e w2 ⟨g2,B2,k2,d2,rfl,hz2,hs2⟩;have hmX:MatX (·≠w2.heap.size) (w2.alloc (.cells #[.bool g2,.slice B2 k2 d2] 149)) A1 (zo m 0).2:=((hm1.mat.ext hs2.ext).old.mono (fun b hb=>by omega)).ext Zi;go_wp2;go_step3
 go_wp2;go_loopw [6,8,9,10,24] (fun s6 s8 _ _ i wr=>∃(k:Nat) (A c:_) (Al:Option Addr) (cl:Nat) (gl:Bool) (Bl:Option Addr) (kl dl:Nat),k<m.length/\i= .int .i64 k/\s6= .slice A (m.length-k) c/\MatX (·≠w2.heap.size) wr A (zo m k).2/\m.length-k<=c/\c<=9223372036854775807/\s8= .slice Al k cl/\Sofar wr w.heap.size w2.heap.size m Al k cl/\wr.heap[w2.heap.size]? =some (.cells #[.bool gl,.slice Bl kl dl] 149 (0,0))/\IntV wr gl Bl kl dl (zo m k).1/\Ext w wr) (fun _ _ _ _ i _=>m.length-(intOf i).toNat)
 case atStart=>
  refine⟨0,A1,c1,none,0,g2,B2,k2,d2,by omega,rfl,rfl,hmX,by omega,hc2,rfl,⟨[],Own.nil _ _ _ _,fun i hi=>absurd hi (by omega)⟩,heap_alloc_new w2 _,hz2.ext Zi,Zi⟩
 case round=>
  obtain⟨k,A2,c2,Al,cl,gl,Bl,kl,dl,hk,rfl,rfl,hM,zvc,zvd,rfl,hS,hL,hI,hxr⟩:=hrel;obtain⟨wo,rfl⟩:∃wo:World,wo=wr:=⟨_,rfl⟩;have HL:=Zh hL;clear hL;obtain⟨hd,zr5,hhd⟩:=id hS;have HH:=Zh hhd;clear hhd hS;have zsg:=Arr.new wo 79 #[.slice A2 (m.length-k) c2];by_cases zsD:k=m.length-1
  ·have HLast:=Zh zsD;have hlb:((k:Int)==(m.length:Int)-1)=true:=by simp;omega
   clear zsD;go_wp2_with (at_builtin;refine zM _ rfl _ _ 93 rfl w.heap.size 79 (.slice none 0 0) 1 24 Tryz.underlying93 zc2 rfl (by omega) (by omega) Al k cl hd rfl (zr5.ext Zi) _ 1 1 [.slice A2 (m.length-k) c2] rfl zsg (by simp) (by simp[Value.oneCell']) (by omega) (by have:=hxr.size;simp;omega) ?_;intro A3 c3 w3 zsp hg3)
   go_ret2
   have hS3:=Sofar.put zr5 HH.out hM zvc zvd (Zi:Ext wo (wo.alloc (.cells #[.slice A2 (m.length-k) c2] 79))) hg3 zsp;have hk1:k+1=m.length:=by have:=HLast.out;omega
   rw[hk1]at hS3|-
   have zsf:=zsp.cap;have zr7:(Qv m).length=m.length:=by simp[Qv]
   have hxx:Ext w w3:=hg3.ext Zi Zr;refine⟨A3,c3,by rw[zr7];rfl,?_,by omega,by omega,hxx.toStep⟩;obtain⟨hd',ho',hh'⟩:=hS3;refine⟨hd',by rw[zr7];simpa using ho'.len,ho'.arr,fun i r hr=>?_⟩;have hi:i<m.length:=by
    rcases Zl i m.length with hi|hi
    ·exact hi
    ·rw[List.getElem?_eq_none (by omega)]at hr;cases hr
   have hr':r=(zo m i).2:=by simp[Qv,hi]at hr;exact hr.symm
   subst hr';obtain⟨B,d,a1,a2,a3,a4⟩:=hh' i hi;rw[ZU];exact⟨B,d,a1,a2.mat,a3,a4⟩
  ·have hlb:((k:Int)==(m.length:Int)-1)=false:=by simp;omega
   have hk1:k+1<m.length:=by omega
   clear zsD;have zuy:=HO.out.pivot k hk1;have hsg:(zk (ent (zo m k).2 0 0) 0==0)=false:=by unfold zk;split<;>simp_all
   go_wp2_with (first
    |(at_builtin;refine zM _ rfl _ _ 93 rfl w.heap.size 79 (.slice none 0 0) 1 24 Tryz.underlying93 zc2 rfl (by omega) (by omega) Al k cl hd rfl (zr5.ext Zi) _ 1 1 [.slice A2 (m.length-k) c2] rfl zsg (by simp) (by simp[Value.oneCell']) (by omega) (by have:=hxr.size;simp;omega) ?_;intro A3 c3 w3 zsp hg3;have hM3:=(hM.ext (Zi:Ext wo (wo.alloc (.cells #[.slice A2 (m.length-k) c2] 79)))).grow hg3 (by decide) (by decide) (by decide);have hL3:=Grow.heap hg3 (zj (Zi:Ext wo (wo.alloc (.cells #[.slice A2 (m.length-k) c2] 79))) HL.out) (by decide);have hI3:=(hI.ext (Zi:Ext wo (wo.alloc (.cells #[.slice A2 (m.length-k) c2] 79)))).grow hg3 (by decide);have hS3:=Sofar.put zr5 HH.out hM zvc zvd (Zi:Ext wo (wo.alloc (.cells #[.slice A2 (m.length-k) c2] 79))) hg3 zsp;have hx3:Ext w w3:=hg3.ext Zi Zr;obtain⟨b0,o0,b1,o1,c0,g0,B0,k0,d0,rfl,e1,e2,e3,hV0,f1,f2,f3,f4⟩:=hM3.mat.ent_ (i:=0) (j:=0) (zad m HN.out k) (by rw[ZU];omega) (by omega);simp only[Nat.add_zero,Nat.zero_mul]at e1 e2 e3;have ob0:Old b0 w3:=⟨f3⟩;have ob1:Old b1 w3:=⟨f4⟩;have HL3:=Zh hL3;clear hL3)
    |(go_at_call 243;refine(zkd hV0).mono ?_;rintro e w4 ⟨rfl,hs4⟩)
    |fail)
   have zve:Ext w3 w4:=hs4.ext;have hst:(zo m k).2.length=m.length-k:=ZU m k;have zt8:=zft (w:=w4.alloc (.cells #[.slice (some ⟨b0,o0,none⟩) (m.length-k) c2] 79)) 244 #[.pointer (some ⟨w4.heap.size,0,none⟩),.pointer (some ⟨w2.heap.size,0,none⟩)] (m.length-k-1) (m.length-k-1) (by omega) (by omega) (by omega) zkE
    (fun i j=>(ent (zo m k).2 0 0*ent (zo m k).2 (i+1) (j+1)-ent (zo m k).2 (i+1) 0*ent (zo m k).2 0 (j+1)) / (zo m k).1)
    (fun i j W hi hj hW=>by
     obtain⟨-,a1,a2,a3⟩:=zaY w4 W w4.heap.size (.slice (some ⟨b0,o0,none⟩) (m.length-k) c2) 79 rfl;have hx4:Ext w4 W:=Ext.trans Zi hW;have hx3:Ext w3 W:=zve.trans hx4;have hLW:=zj hx3 HL3.out;refine zkB (n:=m.length-k) (c:=c2) hM3.mat hI3 (zad m HN.out k) hst (by omega) i j (by omega) (by omega) (HO.out.cross k i j (by omega) (by omega)) ?_ a3 ?_ ?_ (zF hLW)
     ·rw[hst];exact a1
     ·simp[World.cell?,hLW]
     ·simp[World.cell?,hLW])
   rw[show ((m.length-k-1:Nat):Int)=(m.length:Int)-(k:Int)-1 by omega]at zt8;have zs9:tab (fun i j=>(ent (zo m k).2 0 0*ent (zo m k).2 (i+1) (j+1)-ent (zo m k).2 (i+1) 0*ent (zo m k).2 0 (j+1)) / (zo m k).1) (m.length-k-1) (m.length-k-1)=(zo m (k+1)).2:=by
    simp only[zo,jU];rw[hst]
   rw[zs9]at zt8;have HNX:=Zh hst;clear zs9 hst;refine zt8.mono ?_;clear zt8;rintro e w5 ⟨A5,c5,rfl,hM5,zt9,zuC,hs5⟩;rw[ZU]at zt9|-
   have hx5:Ext w3 w5:=Zi;have hL5:=zj hx5 HL3.out;have oL:Old w2.heap.size w3:=⟨zF HL3.out⟩;have q1:w5.cell? ⟨w2.heap.size,0,none⟩=some (.bool gl):=by simp[World.cell?,hL5]
   have q2:w5.cell? ⟨w2.heap.size,1,none⟩=some (.slice Bl kl dl):=by simp[World.cell?,hL5]
   have q3:w5.frozen? ⟨w2.heap.size,0,none⟩=false:=by simp[World.frozen?,hL5]
   have q4:w5.frozen? ⟨w2.heap.size,1,none⟩=false:=by simp[World.frozen?,hL5]
   have z5:w2.heap.size<(w4.alloc (.cells #[.slice (some ⟨b0,o0,none⟩) (m.length-k) c2] 79)).heap.size:=by
    have:=zF HL3.out;have:=zve.size;simp;omega
   have hMX:MatX (·≠w2.heap.size) w5 A5 (zo m (k+1)).2:=hM5.mono (fun b hb=>by omega);have HL5:=Zh hL5;have hw2:w.heap.size<=w2.heap.size:=(Zi:Ext w w2).size;clear hL5 z5;go_wp2;refine⟨⟨k+1,A5,c5,A3,c3,g0,B0,k0,d0,by omega,by go_num,rfl,?_,?_,zuC,rfl,?_,?_,?_,?_⟩,by simp[intOf]<;>omega⟩
   ·exact(hMX.setBox HL5.out _ _).setBox (Zo HL5.out _) _ _
   ·omega
   ·exact((hS3.ext hx5).setBox HL5.out _ _).setBox (Zo HL5.out _) _ _
   ·rw[Zo (Zo HL5.out _)];rfl
   ·exact(hV0.ext hx5).boxed (by decide) HL5.out _ _
   ·exact(((hx3.trans hx5).setCell (p:=⟨w2.heap.size,0,none⟩) hw2 _).setCell (p:=⟨w2.heap.size,1,none⟩) hw2 _)
theorem MatA.ent_(h:MatA w A m)(hi:i<m.length)(hl:(m.getD i []).length=n)(hj:j<n):
  ∃b o b1 o1 c,A=some ⟨b,o,none⟩/\w.cell? ⟨b,o+i,none⟩=some (.slice (some ⟨b1,o1,none⟩) n c)/\w.cell? ⟨b1,o1+j,none⟩=some (.int .i64 (ent m i j))/\n<=c/\c<=9223372036854775807/\b<w.heap.size/\b1<w.heap.size:=by
 have hr:m[i]? =some m[i]:=by simp
 have hl':m[i].length=n:=by simpa[List.getD,hi] using hl
 obtain⟨b,o,B0,c,hA,hc,hI,h1,h2,hb⟩:=h.at_ hr;obtain⟨b1,o1,x,rfl,hx,c1,hb1⟩:=hI.at_ (i:=j) (by omega);have he:ent m i j=x:=JL hr hx;rw[he];rw[hl']at hc h1;exact⟨b,o,b1,o1,c,hA,hc,c1,h1,h2,hb,hb1⟩
theorem MatA.row_(h:MatA w A m)(hi:i<m.length):
  ∃b o B c,A=some ⟨b,o,none⟩/\w.cell? ⟨b,o+i,none⟩=some (.slice B (m.getD i []).length c)/\(m.getD i []).length<=c/\c<=9223372036854775807/\b<w.heap.size:=by
 have hr:m[i]? =some m[i]:=by simp
 obtain⟨b,o,B0,c,hA,hc,hI,h1,h2,hb⟩:=h.at_ hr;have e:m.getD i []=m[i]:=by simp[List.getD,hi]
 rw[e];exact⟨b,o,B0,c,hA,hc,h1,h2,hb⟩
def Qw(h:List (List Int)):Bool:=decide (1<=h.length/\h.length<=8/\(∀i,i<h.length->(h.getD i []).length=h.length)/\∀i,i<h.length->∀j,j<h.length->ent h i j=ent h j i/\-262144<ent h i j/\ent h i j<262144)
theorem zae(hh:¬(1<=h.length/\h.length<=8/\(∀i,i<h.length->(h.getD i []).length=h.length)/\∀i,i<h.length->∀j,j<h.length->ent h i j=ent h j i/\-262144<ent h i j/\ent h i j<262144)):Qw h=false:=decide_eq_false hh
theorem zkF(hh:1<=h.length/\h.length<=8/\(∀i,i<h.length->(h.getD i []).length=h.length)/\∀i,i<h.length->∀j,j<h.length->ent h i j=ent h j i/\-262144<ent h i j/\ent h i j<262144):Qw h=true:=decide_eq_true hh
set_option maxRecDepth 10000 in
theorem zfw(h:MatA w0 A m)(zr7:m.length<=1099511627776)[hx:Ext w0 w]:
  Cq 169 #[.slice A m.length c] w (Zv w (.bool (Qw m))):=by
 have h0:=h.ext hx;by_cases hz:m.length<1
 ·have HF:=Zh (zae (h:=m) (by omega));have hd1:decide ((m.length:Int)<1)=true:=by simp;omega
  go_enter Tryz.func169,Tryz.ntmps169;go_wp2;go_ret;exact⟨by rw[HF.out];rfl,rfl⟩
 by_cases hg:8<m.length
 ·have HF:=Zh (zae (h:=m) (by omega));have hd1:decide ((m.length:Int)<1)=false:=by simp;omega
  have hd2:decide ((8:Int)<(m.length:Int))=true:=by simp;omega
  go_enter Tryz.func169,Tryz.ntmps169;go_wp2;go_ret;exact⟨by rw[HF.out];rfl,rfl⟩
 have hd1:decide ((m.length:Int)<1)=false:=by simp;omega
 have hd2:decide ((8:Int)<(m.length:Int))=false:=by simp;omega
 have h1:1<=m.length:=by omega
 have h8:m.length<=8:=by omega
 clear hz hg;go_enter Tryz.func169,Tryz.ntmps169;go_wp2;go_loop [5,20] (fun _ i=>∃k:Nat,k<=m.length/\i= .int .i64 k/\Hid (∀i,i<k->(m.getD i []).length=m.length)) (fun _ i=>m.length-(intOf i).toNat)
 case atStart=>exact⟨0,by omega,rfl,Zh (fun i hi=>absurd hi (by omega))⟩
 case round=>
  obtain⟨k,hk,rfl,hR⟩:=hrel;by_cases hlt:k<m.length
  ·obtain⟨b,o,B,c1,rfl,e1,f1,f2,f3⟩:=h0.row_ hlt;obtain⟨ln,hln⟩:=Xz ((m.getD k []).length);rw[<-hln]at e1 f1;have HLN:=Zh hln;clear hln;by_cases hne:ln=m.length
   ·subst hne;go_wp2;refine⟨⟨k+1,by omega,by go_num,Zh fun i hi=>?_⟩,by simp[intOf]<;>omega⟩;rcases Zl i k with h|h
    ·exact hR.out i h
    ·obtain rfl:i=k:=by omega
     exact HLN.out.symm
   ·have hb:((ln:Int) !=(m.length:Int))=true:=by simp;omega
    have HF:=Zh (zae (h:=m) (fun hh=>hne (by rw[HLN.out];exact hh.2.2.1 k hlt)));clear hne;go_wp2;go_ret;exact⟨by rw[HF.out];rfl,rfl⟩
  ·obtain rfl:k=m.length:=by omega
   clear hlt;go_wp2;go_loop [6,7,8,9,31] (fun _ _ _ _ i=>∃k:Nat,k<=m.length/\i= .int .i64 k/\Hid (∀i,i<k->∀j,j<m.length->ent m i j=ent m j i/\-262144<ent m i j/\ent m i j<262144)) (fun _ _ _ _ i=>m.length-(intOf i).toNat)
   case atStart=>exact⟨0,by omega,rfl,Zh (fun i hi=>absurd hi (by omega))⟩
   case round=>
    obtain⟨k,hk,rfl,hE⟩:=hrel;by_cases hlt:k<m.length
    ·obtain⟨b,o,B,c1,rfl,e1,f1,f2,f3⟩:=h0.row_ hlt;rw[hR.out k hlt]at e1 f1;go_wp2;go_loop [8,9,38] (fun _ _ i=>∃q:Nat,q<=m.length/\i= .int .i64 q/\Hid (∀j,j<q->ent m k j=ent m j k/\-262144<ent m k j/\ent m k j<262144)) (fun _ _ i=>m.length-(intOf i).toNat)
     case atStart=>exact⟨0,by omega,rfl,Zh (fun i hi=>absurd hi (by omega))⟩
     case round=>
      obtain⟨q,hq,rfl,hQ⟩:=hrel;by_cases hqt:q<m.length
      ·obtain⟨b',o',b1,o1,c2,hA,g1,g2,g3,g4,g5,g6⟩:=h0.ent_ (i:=k) (j:=q) hlt (hR.out k hlt) hqt;injection hA with hA
       injection hA with x1 x2
       subst x1 x2;rw[e1]at g1;injection g1 with g1
       injection g1 with x1 x2 x3
       subst x1 x3;obtain⟨b',o',b2,o2,c3,hA,p1,p2,p3,p4,p5,p6⟩:=h0.ent_ (i:=q) (j:=k) hqt (hR.out q hqt) hlt;injection hA with hA
       injection hA with x1 x2
       subst x1 x2;obtain⟨x,ex⟩:=Xz (ent m k q);obtain⟨y,ey⟩:=Xz (ent m q k);rw[<-ex]at g2;rw[<-ey]at p2;have EX:=Zh ex;have EY:=Zh ey;clear ex ey;by_cases hxy:x=y
       ·subst hxy;by_cases hlo:x<=-262144
        ·have HF:=Zh (zae (h:=m) (fun hh=>by have:=(hh.2.2.2 k hlt q hqt).2.1;rw[<-EX.out]at this;omega));have ztE:decide (x<=-262144)=true:=by simpa using hlo
         go_wp2;go_ret;exact⟨by rw[HF.out];rfl,rfl⟩
        ·have ztE:decide (x<=-262144)=false:=by simp;omega
         by_cases hhi:262144<=x
         ·have HF:=Zh (zae (h:=m) (fun hh=>by have:=(hh.2.2.2 k hlt q hqt).2.2;rw[<-EX.out]at this;omega));have ztF:decide (262144<=x)=true:=by simpa using hhi
          clear hlo;go_wp2;go_ret;exact⟨by rw[HF.out];rfl,rfl⟩
         ·have ztF:decide (262144<=x)=false:=by simp;omega
          have hx1:-262144<x:=by omega
          have hx2:x<262144:=by omega
          clear hlo hhi;go_wp2;refine⟨⟨q+1,by omega,by go_num,Zh fun j hj=>?_⟩,by simp[intOf]<;>omega⟩;rcases Zl j q with h|h
          ·exact hQ.out j h
          ·obtain rfl:j=q:=by omega
           rw[<-EX.out,<-EY.out];exact⟨rfl,hx1,hx2⟩
       ·have hb:(x !=y)=true:=by simp[hxy]
        have HF:=Zh (zae (h:=m) (fun hh=>by have:=(hh.2.2.2 k hlt q hqt).1;rw[<-EX.out,<-EY.out]at this;exact hxy this));clear hxy;go_wp2;go_ret;exact⟨by rw[HF.out];rfl,rfl⟩
      ·obtain rfl:q=m.length:=by omega
       clear hqt;go_wp2;refine⟨⟨k+1,by omega,by go_num,Zh fun i hi=>?_⟩,by simp[intOf]<;>omega⟩;rcases Zl i k with h|h
       ·exact hE.out i h
       ·obtain rfl:i=k:=by omega
        exact hQ.out
    ·obtain rfl:k=m.length:=by omega
     have HF:=Zh (zkF (h:=m) ⟨h1,h8,hR.out,hE.out⟩);clear hlt;go_wp2;go_ret;exact⟨by rw[HF.out];rfl,rfl⟩
theorem AllLen.at_(hn:AllLen m n)(hi:i<m.length):(m.getD i []).length=n:=by
 have:m.getD i []=m[i]:=by simp[List.getD,hi]
 rw[this];exact hn _ (List.getElem_mem hi)
def QS(m:List (List Int)):Bool:=decide (0<ent m 0 0/\ent m 0 0<65536/\∀i,i<m.length->1<=i->2*ent m i 0<=ent m 0 0/\-2*ent m i 0<=ent m 0 0)
theorem zbS(hh:¬(0<ent h 0 0/\ent h 0 0<65536/\∀i,i<h.length->1<=i->2*ent h i 0<=ent h 0 0/\-2*ent h i 0<=ent h 0 0)):QS h=false:=decide_eq_false hh
theorem zkG(hh:0<ent h 0 0/\ent h 0 0<65536/\∀i,i<h.length->1<=i->2*ent h i 0<=ent h 0 0/\-2*ent h i 0<=ent h 0 0):QS h=true:=decide_eq_true hh
def zfx(m:List (List Int)):Prop:=∀i,i<m.length->∀j,j<m.length->-1099511627776<=ent m i j/\ent m i j<=1099511627776
set_option maxRecDepth 10000 in
theorem zkH(h:MatA w0 A m)(h1:2<=m.length)(h8:m.length<=8)(hc:m.length<=c)(hc2:c<=9223372036854775807)(hn:AllLen m m.length)(hB:zfx m)[hx:Ext w0 w]:
  Cq 170 #[.slice A m.length c] w (Zv w (.bool (QS m))):=by
 have h0:=h.ext hx;have zxL:c≠1:=by omega
 obtain⟨b,o,b1,o1,c1,rfl,e1,e2,f1,f2,f3,f4⟩:=h0.ent_ (i:=0) (j:=0) (n:=m.length) (by omega) (hn.at_ (by omega)) (by omega);have hb0:=hB 0 (by omega) 0 (by omega);obtain⟨d,hd⟩:=Xz (ent m 0 0);rw[<-hd]at e2 hb0;simp only[Nat.add_zero]at e1 e2;have HD:=Zh hd;clear hd;by_cases hz:d<=0
 ·have HF:=Zh (zbS (h:=m) (fun hh=>by have:=hh.1;rw[<-HD.out]at this;omega));have hd1:decide (d<=0)=true:=by simpa using hz
  clear hz;go_enter Tryz.func170,Tryz.ntmps170;go_wp2;go_ret;exact⟨by rw[HF.out];rfl,rfl⟩
 have hd1:decide (d<=0)=false:=by simp;omega
 by_cases hg:65536<=d
 ·have HF:=Zh (zbS (h:=m) (fun hh=>by have:=hh.2.1;rw[<-HD.out]at this;omega));have hd2:decide (65536<=d)=true:=by simpa using hg
  clear hg hz;go_enter Tryz.func170,Tryz.ntmps170;go_wp2;go_ret;exact⟨by rw[HF.out];rfl,rfl⟩
 have hd2:decide (65536<=d)=false:=by simp;omega
 have hd3:0<d:=by omega
 have hd4:d<65536:=by omega
 clear hz hg;go_enter Tryz.func170,Tryz.ntmps170;go_wp2;go_loop [5,20] (fun _ i=>∃k:Nat,k+1<=m.length/\i= .int .i64 k/\Hid (∀i,1<=i->i<k+1->2*ent m i 0<=ent m 0 0/\-2*ent m i 0<=ent m 0 0)) (fun _ i=>m.length-(intOf i).toNat)
 case atStart=>exact⟨0,by omega,rfl,Zh (fun i hi hi2=>absurd hi2 (by omega))⟩
 case round=>
  obtain⟨k,hk,rfl,hR⟩:=hrel;by_cases hlt:k+1<m.length
  ·obtain⟨b',o',b2,o2,c2,hA,g1,g2,g3,g4,g5,g6⟩:=h0.ent_ (i:=k+1) (j:=0) (n:=m.length) hlt (hn.at_ hlt) (by omega);injection hA with hA
   injection hA with x1 x2
   subst x1 x2;have hbk:=hB (k+1) hlt 0 (by omega);obtain⟨x,ex⟩:=Xz (ent m (k+1) 0);rw[<-ex]at g2 hbk;rw[show o+(k+1)=o+1+k by omega]at g1;simp only[Nat.add_zero]at g2;have EX:=Zh ex;clear ex;by_cases hlo:d<2*x
   ·have HF:=Zh (zbS (h:=m) (fun hh=>by have:=(hh.2.2 (k+1) hlt (by omega)).1;rw[<-HD.out,<-EX.out]at this;omega));have ztE:decide (d<2*x)=true:=by simpa using hlo
    clear hlo;go_wp2;go_ret;exact⟨by rw[HF.out];rfl,rfl⟩
   ·have ztE:decide (d<2*x)=false:=by simp;omega
    by_cases hhi:d< -2*x
    ·have HF:=Zh (zbS (h:=m) (fun hh=>by have:=(hh.2.2 (k+1) hlt (by omega)).2;rw[<-HD.out,<-EX.out]at this;omega));have ztF:decide (d< -2*x)=true:=by simpa using hhi
     clear hlo hhi;go_wp2;go_ret;exact⟨by rw[HF.out];rfl,rfl⟩
    ·have ztF:decide (d< -2*x)=false:=by simp;omega
     have HX:=Zh hlo;have HY:=Zh hhi;clear hlo hhi;go_wp2;refine⟨⟨k+1,by omega,by go_num,Zh fun i hi1 hi2=>?_⟩,by simp[intOf]<;>omega⟩;rcases Zl i (k+1) with h|h
     ·exact hR.out i hi1 h
     ·obtain rfl:i=k+1:=by omega
      have:=HX.out;have:=HY.out;rw[<-HD.out,<-EX.out];omega
  ·obtain rfl:k=m.length-1:=by omega
   have HF:=Zh (zkG (h:=m) ⟨by rw[<-HD.out];exact hd3,by rw[<-HD.out];exact hd4,fun i hi1 hi2=>hR.out i hi2 (by omega)⟩);clear hlt;go_wp2;go_ret;exact⟨by rw[HF.out];rfl,rfl⟩
def Qd(ze:Int)(m:List (List Int)):List (List Int):=tab (fun i j=>Int.tdiv (ent m 0 0*ent m (i+1) (j+1)-ent m (i+1) 0*ent m 0 (j+1)) ze) (m.length-1) (m.length-1)
def qU:Nat->Int->List (List Int)->Bool
 |0,_,m=>decide (0<ent m 0 0/\ent m 0 0<=10000)
 |k+1,ze,m=>QS m&&(!decide (4*(ze*ent (Qd ze m) 0 0+ent m 1 0*ent m 1 0)<3*ent m 0 0*ent m 0 0)&&qU k (ent m 0 0) (Qd ze m))
def ZH(h:List (List Int)):Bool:=Qw h&&qU (h.length-1) 1 h
theorem Qn(F:Nat->Nat->Int)(r c i j:Nat)(hi:i<r)(hj:j<c):ent (tab F r c) i j=F i j:=by
 simp[ent,tab,hi,hj]
structure SInv(ze:Int)(m:List (List Int)):Prop where
 len1:1<=m.length
 len8:m.length<=8
 all:AllLen m m.length
 sym:∀i,i<m.length->∀j,j<m.length->ent m i j=ent m j i
 za:∀i,i<m.length->∀j,j<m.length->-((393216-16384*(m.length:Int))*ze)<=ent m i j/\ent m i j<=(393216-16384*(m.length:Int))*ze
 lp:0<ze
 ll:ze<65536
theorem SInv.start(hh:Qw h=true):SInv 1 h:=by
 have hs:=of_decide_eq_true hh;refine⟨hs.1,hs.2.1,fun r hr=>?_,fun i hi j hj=>(hs.2.2.2 i hi j hj).1,fun i hi j hj=>?_,by omega,by omega⟩
 ·obtain⟨i,hi,rfl⟩:=List.getElem_of_mem hr;have:=hs.2.2.1 i hi;simpa[List.getD,hi] using this
 ·have h1:=(hs.2.2.2 i hi j hj).2;have h2:=hs.2.1;omega
theorem SInv.b40(h:SInv ze m):zfx m:=fun i hi j hj=>by
 have hb:=h.za i hi j hj;have h1:(393216-16384*(m.length:Int))*ze<=393216*65536:=Int.mul_le_mul (by omega) (by have:=h.ll;omega) (by have:=h.lp;omega) (by omega);omega
theorem zkI{X l K:Int}(hl:0<l)(h1:-(K*l)<=X)(h2:X<=K*l):-K<=X.tdiv l/\X.tdiv l<=K:=by
 rw[tdiv_eq_if];split
 ·have a:=Int.ediv_le_of_le_mul hl h2;have b:=Int.ediv_nonneg (a:=X) (b:=l) (by omega) (by omega);have:0<=K:=by
   rcases(by omega:K<0∨0<=K) with h|h
   ·have:=Int.mul_neg_of_neg_of_pos h hl;omega
   ·exact h
  omega
 ·have a:=Int.ediv_le_of_le_mul hl (show-X<=K*l by omega);have b:=Int.ediv_nonneg (a:=-X) (b:=l) (by omega) (by omega);have:0<=K:=by
   rcases(by omega:K<0∨0<=K) with h|h
   ·have:=Int.mul_neg_of_neg_of_pos h hl;omega
   ·exact h
  omega
theorem zfy(h1:2*a<=d)(h2:-2*a<=d)(h3:2*b<=d)(h4:-2*b<=d):-(d*d)<=4*(a*b)/\4*(a*b)<=d*d:=by
 have p1:0<=(d-2*a)*(d+2*b):=Int.mul_nonneg (by omega) (by omega);have p2:0<=(d+2*a)*(d-2*b):=Int.mul_nonneg (by omega) (by omega);have p3:0<=(d-2*a)*(d-2*b):=Int.mul_nonneg (by omega) (by omega);have p4:0<=(d+2*a)*(d+2*b):=Int.mul_nonneg (by omega) (by omega);simp only[Int.sub_mul,Int.add_mul,Int.mul_sub,Int.mul_add]at p1 p2 p3 p4;have e1:2*a*(2*b)=4*(a*b):=by rw[Int.mul_assoc,Int.mul_left_comm a 2 b,<-Int.mul_assoc];rfl
 have e2:d*(2*b)=2*(d*b):=by rw[Int.mul_left_comm]
 have e3:2*a*d=2*(a*d):=by rw[Int.mul_assoc]
 rw[e1,e2,e3]at p1 p2 p3 p4;omega
theorem zkJ{B:Int}(hd0:0<d)(hd1:d<65536)(ha:2*a<=d/\-2*a<=d)(hb:2*b<=d/\-2*b<=d)(hx:-(B*ze)<=x/\x<=B*ze)(hlp:0<ze)(hll:ze<65536)(hB0:0<=B)(hB2:B<=376832):
  -((B+16384)*d*ze)<=d*x-a*b/\d*x-a*b<=(B+16384)*d*ze/\-4294967296<=a*b/\a*b<=4294967296/\-(4503599627370496)<=d*x/\d*x<=4503599627370496:=by
 have hm:=zfy ha.1 ha.2 hb.1 hb.2;have hdd:d*d<=65536*d:=Int.mul_le_mul_of_nonneg_right (by omega) (by omega);have hdl:d<=d*ze:=by
  have:=Int.mul_le_mul_of_nonneg_left (a:=1) (b:=ze) (c:=d) (by omega) (by omega);omega
 have q1:d*x<=d*(B*ze):=Int.mul_le_mul_of_nonneg_left hx.2 (by omega);have q2:d*-(B*ze)<=d*x:=Int.mul_le_mul_of_nonneg_left hx.1 (by omega);have e1:(B+16384)*d*ze=d*(B*ze)+16384*(d*ze):=by
  rw[Int.mul_assoc,Int.add_mul,Int.mul_left_comm d B ze]
 have hBl:B*ze<=376832*65536:=Int.mul_le_mul hB2 (by omega) (by omega) (by omega);have q3:d*(B*ze)<=65536*(376832*65536):=Int.mul_le_mul (by omega) hBl (Int.mul_nonneg hB0 (by omega)) (by omega);rw[Int.mul_neg]at q2;rw[e1];omega
theorem SInv.nums(h:SInv ze m)(hs:QS m=true)(hi:i+1<m.length)(hj:j+1<m.length):
  -((409600-16384*(m.length:Int))*ent m 0 0*ze)<=ent m 0 0*ent m (i+1) (j+1)-ent m (i+1) 0*ent m 0 (j+1)/\ent m 0 0*ent m (i+1) (j+1)-ent m (i+1) 0*ent m 0 (j+1)<=(409600-16384*(m.length:Int))*ent m 0 0*ze/\
  -4294967296<=ent m (i+1) 0*ent m 0 (j+1)/\ent m (i+1) 0*ent m 0 (j+1)<=4294967296/\-(4503599627370496)<=ent m 0 0*ent m (i+1) (j+1)/\ent m 0 0*ent m (i+1) (j+1)<=4503599627370496:=by
 have hsh:=of_decide_eq_true hs;obtain⟨hd0,hd1,zsL⟩:=hsh;have ha:=zsL (i+1) hi (by omega);have hb:=zsL (j+1) hj (by omega);rw[<-h.sym 0 (by omega) (j+1) hj]at hb;rw[show (409600-16384*(m.length:Int))=(393216-16384*(m.length:Int))+16384 by omega];have hl8:=h.len8;have hl1:=h.len1;exact zkJ hd0 hd1 ha hb (h.za (i+1) hi (j+1) hj) h.lp h.ll (by omega) (by omega)
theorem SInv.next(h:SInv ze m)(h2:2<=m.length)(hs:QS m=true):SInv (ent m 0 0) (Qd ze m):=by
 have hsh:=of_decide_eq_true hs;have hl:(Qd ze m).length=m.length-1:=zw _ _ _;refine⟨by omega,by have:=h.len8;omega,by rw[hl];exact Qm _ _ _,fun i hi j hj=>?_,fun i hi j hj=>?_,hsh.1,hsh.2.1⟩
 ·rw[hl]at hi hj;unfold Qd;rw[Qn _ _ _ _ _ hi hj,Qn _ _ _ _ _ hj hi,h.sym (i+1) (by omega) (j+1) (by omega),h.sym (i+1) (by omega) 0 (by omega),h.sym 0 (by omega) (j+1) (by omega),Int.mul_comm (ent m 0 (i+1))]
 ·rw[hl]at hi hj;have hn:=h.nums hs (i:=i) (j:=j) (by omega) (by omega);rw[hl];unfold Qd;rw[Qn _ _ _ _ _ hi hj];have:=zkI h.lp hn.1 hn.2.1;rw[show (393216-16384*((m.length-1:Nat):Int))=409600-16384*(m.length:Int) by omega];exact this
def lenOf:Value->Nat
 | .slice _ n _=>n
 |_=>0
theorem zfz(hs:Qw h=false):ZH h=false:=by simp[ZH,hs]
theorem zkK(hs:Qw h=true):ZH h=qU (h.length-1) 1 h:=by simp[ZH,hs]
theorem MatA.rowAt(h:MatA w A m)(hi:i<m.length)(hl:(m.getD i []).length=n)(hn:0<n):
  ∃b o b1 o1 c,A=some ⟨b,o,none⟩/\n<=c/\c<=9223372036854775807/\∀w',Ext w w'->w'.cell? ⟨b,o+i,none⟩=some (.slice (some ⟨b1,o1,none⟩) n c)/\b<w'.heap.size/\b1<w'.heap.size/\∀j,j<n->w'.cell? ⟨b1,o1+j,none⟩=some (.int .i64 (ent m i j)):=by
 have hr:m[i]? =some m[i]:=by simp
 have hl':m[i].length=n:=by simpa[List.getD,hi] using hl
 obtain⟨b,o,B0,c,hA,hc,hI,h1,h2,hb⟩:=h.at_ hr;rw[hl']at hc h1;obtain⟨b1,o1,x0,rfl,-,-,hb1⟩:=hI.at_ (i:=0) (by omega);refine⟨b,o,b1,o1,c,hA,h1,h2,fun w' hx=>⟨?_,Nat.lt_of_lt_of_le hb hx.size,Nat.lt_of_lt_of_le hb1 hx.size,fun j hj=>?_⟩⟩
 ·rw[hx.below.cell (p:=⟨b,o+i,none⟩) hb];exact hc
 ·obtain⟨b2,o2,x,hB,hx2,zsv,-⟩:=hI.at_ (i:=j) (by omega);injection hB with hB
  injection hB with e1 e2
  subst e1 e2;have he:ent m i j=x:=JL hr hx2;rw[he,hx.below.cell (p:=⟨b1,o1+j,none⟩) hb1];exact zsv
theorem SInv.at0(h:SInv ze m)(hn:n=m.length)(hi:i<n):(m.getD i []).length=n:=by
 rw[hn];exact h.all.at_ (by omega)
theorem Heads1.full{F:Nat->Nat->Int}(hc:cols<=9223372036854775807)(h:Heads1 w G F zd cols zd):Mat64 w (some ⟨G,0,none⟩) (tab F zd cols):=by
 obtain⟨hd,v1,v2,v3,v4⟩:=h;refine⟨hd,by rw[v2,zw],v1.arr,fun i r hr=>?_⟩;have hi:i<zd:=by
  rcases Zl i zd with hi|hi
  ·exact hi
  ·rw[List.getElem?_eq_none (by rw[zw];exact hi)]at hr;cases hr
 rw[QR _ _ _ _ hi]at hr;injection hr with hr
 subst hr;obtain⟨B,b1,b2⟩:=v3 i hi;exact⟨B,cols,by simpa using b1,b2,by simp,hc⟩
theorem zkL(h:QS m=false):qU (k+1) ze m=false:=by simp[qU,h]
theorem zkM(h:decide (4*(ze*ent (Qd ze m) 0 0+ent m 1 0*ent m 1 0)<3*ent m 0 0*ent m 0 0)=true):qU (k+1) ze m=false:=by simp only[qU,h,Bool.not_true,Bool.false_and,Bool.and_false]
theorem zkN(hs:QS m=true)(h:decide (4*(ze*ent (Qd ze m) 0 0+ent m 1 0*ent m 1 0)<3*ent m 0 0*ent m 0 0)=false):qU (k+1) ze m=qU k (ent m 0 0) (Qd ze m):=by simp only[qU,hs,h,Bool.not_false,Bool.true_and]
set_option maxRecDepth 10000 in
theorem zbT(h:MatA w0 A m)(zr7:m.length<=1099511627776)(hc:m.length<=c)(hc2:c<=9223372036854775807)[hx:Ext w0 w]:
  Cq 100 #[.slice A m.length c] w (zy w (.bool (ZH m))):=by
 have h0:=h.ext hx
 cases hs:Qw m
 ·have HF:=Zh (zfz hs);go_enter Tryz.func100,Tryz.ntmps100;go_wp2_with fail
  refine(zfw h zr7).mono ?_;rintro e w' ⟨rfl,rfl⟩;rw[hs];go_wp2;go_ret;exact⟨by rw[HF.out];rfl,Step.of _ _⟩
 have HR:=Zh (zkK hs);have HI:=Zh (SInv.start hs);go_enter Tryz.func100,Tryz.ntmps100;go_wp2_with fail
 refine(zfw h zr7).mono ?_;rintro e w' ⟨rfl,rfl⟩;rw[hs];clear hs;go_wp2;go_loopw [3,4,5,6,7,8,9,10] (fun s l _ _ _ _ _ _ wr=>∃A1 c1 m1 ze,s= .slice A1 m1.length c1/\l= .int .i64 ze/\MatA wr A1 m1/\m1.length<=c1/\c1<=9223372036854775807/\Hid (SInv ze m1)/\Hid (ZH m=qU (m1.length-1) ze m1)/\Ext w wr) (fun s _ _ _ _ _ _ _ _=>lenOf s)
 case atStart=>exact⟨_,_,m,1,rfl,rfl,h0,hc,hc2,HI,HR,Zi⟩
 case round=>
  obtain⟨A1,c1,m1,ze,rfl,rfl,hm,k1,k2,hI,hR,hxr⟩:=hrel;clear h0 h hc hc2 HI HR zr7 hx;obtain⟨wo,rfl⟩:∃wo:World,wo=wr:=⟨_,rfl⟩;have hl1:=hI.out.len1;have hl8:=hI.out.len8;obtain⟨n,hn⟩:=Xz m1.length;by_cases hlt:2<=n
  ·obtain⟨b,o,b1,o1,c2,rfl,f1,f2,E1⟩:=hm.rowAt (i:=0) (n:=n) (by omega) (hI.out.at0 hn (by omega)) (by omega);obtain⟨e1,f3,f4,e2'⟩:=E1 wo Zi;have e2:=e2' 0 (by omega);clear e2';have HE1:=Zh E1;clear E1;obtain⟨r,rfl⟩:∃r,n=r+1:=⟨n-1,by omega⟩;have hdb:=hI.out.b40 0 (by omega) 0 (by omega);have zsh:=zkH (w:=wo) hm (c:=c1) (by omega) (by omega) k1 k2 hI.out.all hI.out.b40;have hcut:m1.length-1=(r-1)+1:=by omega
   rw[hcut]at hR;rw[<-hn]at zsh k1;rw[<-hn];obtain⟨d,hd⟩:=Xz (ent m1 0 0);rw[<-hd]at e2 hdb;simp only[Nat.add_zero]at e1 e2;have HN:=Zh hn;have HD:=Zh hd;clear hn hd hl1 hcut;have hr1:1<=r:=by omega
   have hr8:r<=7:=by have:=HN.out;omega
   clear hl8 hlt;have HC:=Zh zsh;clear zsh
   cases hsh:QS m1
   ·have HV:=Zh (hR.out.trans (zkL hsh));rw[hsh]at HC;clear hR hI hsh;go_wp2_with fail
    refine HC.out.mono ?_;rintro e w' ⟨rfl,rfl⟩;go_wp2;go_ret;exact⟨by rw[HV.out];rfl,Step.of _ _⟩
   rw[hsh]at HC;have HS:=Zh hsh;clear hsh;have hmk:=qf (P:=Tryz.prog) Tryz.underlying25 Qc (by omega) (r:Int) (by omega) (by omega);have ztd:=qf (P:=Tryz.prog) Tryz.underlying35 Qb (by omega) (r:Int) (by omega) (by omega);go_wp2_with fail
   refine HC.out.mono ?_;rintro e w' ⟨rfl,rfl⟩;go_wp2;obtain⟨F,hF⟩:∃F:Nat->Nat->Int,F=fun i j=>Int.tdiv (ent m1 0 0*ent m1 (i+1) (j+1)-ent m1 (i+1) 0*ent m1 0 (j+1)) ze:=⟨_,rfl⟩
   have HF:=Zh hF;clear hF;go_loopw [7,8,9,32] (fun _ _ _ i wr=>∃k:Nat,k<=r/\i= .int .i64 k/\Heads1 wr wo.heap.size F r r k/\Ext wo wr) (fun _ _ _ i _=>r-(intOf i).toNat)
   case atStart=>exact⟨0,by omega,rfl,by simpa using Heads1.made wo F r r,Zi⟩
   case round=>
    obtain⟨k,hk,rfl,hH,hxk⟩:=hrel;by_cases zss:k<r
    ·obtain⟨hd,v1,v2,v3,v4⟩:=hH;have hc1:=v1.cell (v4 k Zr zss);have hc2:=v1.frozen k;have hsz:=v1.lt;obtain⟨wi,rfl⟩:∃wi:World,wi=wr:=⟨_,rfl⟩;have V2:=Zh v2;have V3:=Zh v3;have V4:=Zh v4;clear v2 v3 v4;obtain⟨b',o',b2,o2,c3,hA,g3,g4,G1⟩:=hm.rowAt (i:=k+1) (n:=r+1) (by have:=HN.out;omega) (hI.out.at0 HN.out (by omega)) (by omega);injection hA with hA
     injection hA with x1 x2
     subst x1 x2;obtain⟨g1,g5,g6,-⟩:=G1 wi hxk;have HG1:=Zh G1;clear G1;go_wp2;go_loopw [9,48] (fun _ j wr=>∃q:Nat,q<=r/\j= .int .i64 q/\Grow wo.heap.size 35 wi wr/\VRow wr wo.heap.size 35 (hd.set k (.slice (some ⟨wi.heap.size,0,none⟩) r r))/\Cells1 wr wi.heap.size (F k) r q/\Ext wo wr) (fun _ j _=>r-(intOf j).toNat)
     case atStart=>
      refine⟨0,by omega,rfl,?_,?_,?_,?_⟩
      ·exact((Grow.refl _ _ _).setOld (p:=⟨wo.heap.size,k,none⟩) v1 Zr rfl _).alloc hxk.size _
      ·exact(v1.set _ _).ext Zi
      ·have:=Cells1.made (wi.setCell ⟨wo.heap.size,k,none⟩ (.slice (some ⟨wi.heap.size,0,none⟩) r r)) (F k) r;rw[qy,Nat.mul_one]at this;exact this
      ·exact Zi
     case round=>
      obtain⟨q,hq,rfl,hG,hV,hC,hxq⟩:=hrel;by_cases hlt:q<r
      ·have hkl:k<hd.length:=by have:=V2.out;omega
       have zr6:wr.cell? ⟨wo.heap.size,k,none⟩=some (.slice (some ⟨wi.heap.size,0,none⟩) r r):=hV.cell (by rw[List.getElem?_set_self hkl]);obtain⟨q1,q2,q3⟩:=hC.cells hlt;obtain⟨p1,p2,p3,p4⟩:=HE1.out wr hxq;obtain⟨t1,t2,t3,t4⟩:=HG1.out wr hxq;have p5:=p4 (q+1) (by omega);have t5:=t4 (q+1) (by omega);have t6:=t4 0 (by omega);clear p4 t4;have zuD:=hI.out.nums HS.out (i:=k) (j:=q) (by have:=HN.out;omega) (by have:=HN.out;omega)
       have hFk:Hid (F k q=Int.tdiv (ent m1 0 0*ent m1 (k+1) (q+1)-ent m1 (k+1) 0*ent m1 0 (q+1)) ze):=Zh (by rw[HF.out]);rw[<-HD.out]at zuD hFk;obtain⟨y,hy⟩:=Xz (ent m1 (k+1) (q+1));obtain⟨a,ha⟩:=Xz (ent m1 (k+1) 0);obtain⟨z,hz⟩:=Xz (ent m1 0 (q+1));rw[<-hy,<-ha,<-hz]at zuD hFk;rw[<-hz]at p5;rw[<-hy]at t5;rw[<-ha]at t6;simp only[Nat.add_zero]at t6 p1;obtain⟨-,-,n1,n2,n3,n4⟩:=zuD
       have hlp:1<=ze:=hI.out.lp;have hll:=hI.out.ll;clear hy ha hz;have hne:wo.heap.size≠wi.heap.size:=by omega
       have zs8:(hd.set k (.slice (some ⟨wi.heap.size,0,none⟩) r r))[k]? =some (.slice (some ⟨wi.heap.size,0,none⟩) r r):=by rw[List.getElem?_set_self hkl]
       have HNE:=Zh hne;have HSE:=Zh zs8;clear hne zs8;go_wp2;go_region
       rw[<-hFk.out];go_wp2;refine⟨⟨q+1,by omega,by go_num,?_,?_,?_,?_⟩,by simp[intOf]<;>omega⟩
       ·exact(hG.trans (Zi:Ext wr wr.drew) hxk.size).setNew (p:=⟨wi.heap.size,q,none⟩) Zr hxk.size _
       ·exact(hV.ext (Zi:Ext wr wr.drew)).far (p:=⟨wi.heap.size,q,none⟩) HNE.out _
       ·exact(hC.ext (Zi:Ext wr wr.drew)).put hlt
       ·exact(Zi:Ext wo wr.drew).setCell (p:=⟨wi.heap.size,q,none⟩) hxk.size _
      ·obtain rfl:q=r:=by omega
       have zte:=Zh hC.full;go_wp2;refine⟨⟨k+1,by omega,by go_num,⟨_,hV,by rw[List.length_set];exact V2.out,fun i hi=>?_,fun i hi1 hi2=>?_⟩,hxq⟩,by simp[intOf]<;>omega⟩
       ·have hkl:k<hd.length:=by have:=V2.out;omega
        rcases Zl i k with h|h
        ·obtain⟨B,y1,y2⟩:=V3.out i h;exact⟨B,by rw[List.getElem?_set_ne (by omega)];exact y1,y2.grow hG (by decide)⟩
        ·obtain rfl:i=k:=by omega
         exact⟨_,by rw[List.getElem?_set_self hkl],zte.out⟩
       ·rw[List.getElem?_set_ne (by omega)];exact V4.out i (by omega) hi2
    ·obtain rfl:k=r:=by omega
     clear zss;have hNx:tab F k k=Qd ze m1:=by
      unfold Qd;rw[HF.out,<-HN.out];rfl
     have hNM:=(hH.full (by omega)).a;rw[hNx]at hNM;have hINx:=Zh (hI.out.next (by have:=HN.out;omega) HS.out);have hlenN:(Qd ze m1).length=k:=by rw[<-hNx,zw]
     obtain⟨b',o',b3,o3,c4,hA,g3,g4,G1⟩:=hNM.rowAt (i:=0) (n:=k) (by omega) (hINx.out.at0 hlenN.symm (by omega)) (by omega);injection hA with hA
     injection hA with x1 x2
     subst x1 x2;obtain⟨g1,g5,g6,g7⟩:=G1 wr Zi;have g8:=g7 0 (by omega);clear g7 G1;obtain⟨b',o',b2,o2,c3,hA,y3,y4,G1⟩:=hm.rowAt (i:=1) (n:=k+1) (by have:=HN.out;omega) (hI.out.at0 HN.out (by omega)) (by omega);injection hA with hA
     injection hA with x1 x2
     subst x1 x2;obtain⟨y1,y5,y6,y7⟩:=G1 wr hxk;have y8:=y7 0 (by omega);clear y7 G1;have hxb:=hINx.out.za 0 (by omega) 0 (by omega);have hsh:=of_decide_eq_true HS.out;have hla:=hsh.2.2 1 (by have:=HN.out;omega) (by omega);have hd0:=hsh.1;have hd1:=hsh.2.1;have hon:=fun h=>hR.out.trans (zkN HS.out h)
     have zsA:=fun h=>hR.out.trans (zkM h)
     clear hR;rw[hlenN]at hxb;rw[<-HD.out]at hxb hla hd0 hd1 hon zsA;simp only[Nat.add_zero]at g1 g8 y8;obtain⟨x,ex⟩:=Xz (ent (Qd ze m1) 0 0);obtain⟨z,ez⟩:=Xz (ent m1 1 0);rw[<-ex]at hxb hon zsA g8;rw[<-ez]at hla hon zsA y8;have hlp:1<=ze:=hI.out.lp;have hll:=hI.out.ll;have hzz:=zfy hla.1 hla.2 hla.1 hla.2;have hdd:d*d<=65536*65536:=Int.mul_le_mul (by omega) (by omega) (by omega) (by omega)
     have hKd:(393216-16384*(k:Int))*d<=393216*65536:=Int.mul_le_mul (by omega) (by omega) (by omega) (by omega);have hx1:-25769803776<=x:=by omega
     have hx2:x<=25769803776:=by omega
     have zxM:ze*x<=65536*25769803776:=Int.le_trans (Int.mul_le_mul_of_nonneg_left hx2 (by omega)) (Int.mul_le_mul_of_nonneg_right (by omega) (by omega));have zxN:-(65536*25769803776)<=ze*x:=by
      have e1:=Int.mul_le_mul_of_nonneg_left (c:=ze) hx1 (by omega);have e2:ze*25769803776<=65536*25769803776:=Int.mul_le_mul_of_nonneg_right (by omega) (by omega);omega
     have zxO:z*z<=4294967296:=by omega
     have zxP:-4294967296<=z*z:=by omega
     have hd3:3*d*d<=3*4294967296:=by rw[Int.mul_assoc];omega
     have hd4:0<=3*d*d:=Int.mul_nonneg (by omega) (by omega);have HON:=Zh hon;have zrz:=Zh zsA;have HX:=Zh ex;have HZ:=Zh ez;have HL:=Zh hlenN;have HM:=Zh hNM;clear hon zsA ex ez hlenN hNM hNx hsh hH hxb hKd hdd hzz hla
     cases ztr:decide (4*(ze*x+z*z)<3*d*d)
     ·go_wp2;refine⟨⟨some ⟨wo.heap.size,0,none⟩,k,Qd ze m1,d,by rw[HL.out],rfl,HM.out,by rw[HL.out];exact Zr,by omega,?_,?_,hxr.trans hxk⟩,by simp[lenOf]<;>omega⟩
      ·rw[HD.out];exact hINx
      ·have:=HON.out ztr;exact Zh (by rw[this,HL.out])
     ·have HV:=Zh (zrz.out ztr);go_wp2;go_ret;have:Ext w wr:=hxr.trans hxk;exact⟨by rw[HV.out];rfl,Step.of _ _⟩
  ·obtain⟨b,o,b1,o1,c2,rfl,e1,e2,f1,f2,f3,f4⟩:=hm.ent_ (i:=0) (j:=0) (n:=1) (by omega) (by rw[hI.out.all.at_ (by omega)];omega) (by omega);have hn1:m1.length=1:=by omega
   have hb:=hI.out.b40 0 (by omega) 0 (by omega);have HV:Hid (ZH m=decide (0<ent m1 0 0/\ent m1 0 0<=10000)):=Zh (by rw[hR.out,hn1];rfl);clear hR;obtain⟨x,ex⟩:=Xz (ent m1 0 0);rw[<-ex]at e2 hb HV;rw[hn1];simp only[Nat.add_zero]at e1 e2;rw[hn1]at k1;have EX:=Zh ex;clear ex hn hl1 hl8 hlt hn1;by_cases hz:0<x
   ·have hzb:decide (0<x)=true:=by simpa using hz
    have hlb:=Zh (show decide (x<=10000)=decide (0<x/\x<=10000) by simp[hz]);clear hz;go_wp2;go_ret;exact⟨by rw[HV.out,<-hlb.out];rfl,Step.of _ _⟩
   ·have hzb:decide (0<x)=false:=by simpa using hz
    have hlb:=Zh (show decide (0<x/\x<=10000)=false by simp[hz]);clear hz;go_wp2;go_ret;exact⟨by rw[HV.out,hlb.out];rfl,Step.of _ _⟩
end Go.Proofs.YtpcgfpmiphiacaaGreat

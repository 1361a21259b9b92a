import Derived.Test.YtpcgfpmiphiacaaGreatC14
set_option maxHeartbeats 8000000
set_option linter.unusedVariables false
set_option linter.unusedSimpArgs false
namespace Go.Proofs.YtpcgfpmiphiacaaGreat
open Go.RowKit
open List (getElem?_toArray getElem?_cons_zero getElem?_cons_succ setIfInBounds_toArray set_cons_zero set_cons_succ)
variable {x:Int} {m:List (List Int)} {vs:List Value} {b c i j k n zf:Nat} {A B:Option Addr} {w w' w0 w1:World}
def zZ(l:List Nat):List Int:=l.map fun(x:Nat)=>(x:Int)
def zd3(w:World)(l:List Int)(e:Ending)(w':World):Prop:=∃B d,e= .returned (.slice B l.length d)/\Ints w' B 3 .i64 l/\l.length<=d/\d<=9223372036854775807/\Step w w'
theorem JX (x:Int):∀u∈[Value.int .i64 x],u.oneCell'=true:=by intro u hu;obtain rfl:u= .int .i64 x:=by simpa using hu
                                                             rfl
theorem zat{A1:Option Addr}{c1:Nat}{s:List Int}(zr5:Own w1 zf 3 1 A1 (k+1) c1 (s.map (Value.int .i64)++[.int .i64 x])):Own w1 zf 3 1 A1 (k+1) c1 ((s++[x]).map (Value.int .i64)):=by
 simpa using zr5
theorem zd4(k:Nat):zZ (List.range (k+1))=zZ (List.range k)++[(k:Int)]:=by simp[zZ,List.range_succ]
theorem zd5(l:List Nat):(zZ l).length=l.length:=by simp[zZ]
theorem zho(k more:Nat)(hk:k<=1000):
  Cq 153 #[.int .i64 k,.int .i64 more] w (zd3 w (zZ (List.range k++[more]))):=by
 go_enter Tryz.func153,Tryz.ntmps153;go_wp2;go_loopw [5,6] (fun v i wr=>∃(q:Nat) (A1:Option Addr) (c1:Nat),q<=k/\i= .int .i64 q/\v= .slice A1 q c1/\Hid (Own wr w.heap.size 3 1 A1 q c1 ((zZ (List.range q)).map (Value.int .i64)))/\Ext w wr) (fun _ i _=>k-(intOf i).toNat)
 case atStart=>exact⟨0,none,0,by omega,rfl,rfl,Zh (Own.nil _ _ _ _),Zi⟩
 case round=>
  obtain⟨q,A1,c1,hq,rfl,rfl,HO,hxr⟩:=hrel;by_cases hlt:q<k
  ·go_wp2_with (at_builtin;refine zM _ rfl _ _ 28 rfl w.heap.size 3 (.int .i64 0) 1 8 Tryz.underlying28 ju rfl (by omega) (by omega) A1 q c1 ((zZ (List.range q)).map (Value.int .i64)) rfl (HO.out.ext Zi) (some ⟨wr.heap.size,0,none⟩) 1 1 [.int .i64 q] rfl (Arr.new wr 3 #[.int .i64 q]) rfl (JX _) (by omega) (by have:=hxr.size;simp;omega) ?_;intro A2 c2 w2 zr5 hg;have HO2:=Zh (zat zr5);have hx2:Ext w w2:=hg.ext Zi Zr;clear zr5 hg)
   exact⟨⟨q+1,A2,c2,by omega,by go_num,rfl,Zh (by rw[zd4];exact HO2.out),Zi⟩,by simp[intOf]<;>omega⟩
  ·obtain rfl:q=k:=by omega
   go_wp2_with (at_builtin;refine zM _ rfl _ _ 28 rfl w.heap.size 3 (.int .i64 0) 1 8 Tryz.underlying28 ju rfl (by omega) (by omega) A1 q c1 ((zZ (List.range q)).map (Value.int .i64)) rfl (HO.out.ext Zi) (some ⟨wr.heap.size,0,none⟩) 1 1 [.int .i64 more] rfl (Arr.new wr 3 #[.int .i64 more]) rfl (JX _) (by omega) (by have:=hxr.size;simp;omega) ?_;intro A2 c2 w2 zr5 hg;have HO2:=Zh (zat zr5);have hx2:Ext w w2:=hg.ext Zi Zr;clear zr5 hg)
   go_ret;have e:zZ (List.range q++[more])=zZ (List.range q)++[(more:Int)]:=by simp[zZ]
   have hl:(zZ (List.range q++[more])).length=q+1:=by simp[zZ]
   refine⟨A2,c2,by rw[hl];rfl,by rw[e];exact HO2.out.arr,by rw[hl];exact HO2.out.cap.1,HO2.out.cap.2,Step.of _ _⟩
def RowsOf(w:World)(vs:List Value)(m:List (List Int)):Prop:=∀(i:Nat)(r:List Int),m[i]? =some r->∃B c,vs[i]? =some (.slice B r.length c)/\IntsV w B r/\r.length<=c/\c<=9223372036854775807
theorem RowsOf.map(h:RowsOf w vs m)(hk:∀{B:Option Addr}{r:List Int},IntsV w B r->IntsV w' B r):RowsOf w' vs m:=fun i r hr=>by
 obtain⟨B,c,a1,a2,a3⟩:=h i r hr;exact⟨B,c,a1,hk a2,a3⟩
theorem RowsOf.snoc{r:List Int}(h:RowsOf w vs m)(hl:vs.length=m.length)(hr:IntsV w B r)(h1:r.length<=c)(h2:c<=9223372036854775807):RowsOf w (vs++[.slice B r.length c]) (m++[r]):=fun i x hx=>by
 rcases Zl i m.length with hi|hi
 ·rw[List.getElem?_append_left hi]at hx;obtain⟨B',c',a1,a2⟩:=h i x hx;exact⟨B',c',by rw[List.getElem?_append_left (by omega)];exact a1,a2⟩
 ·rw[List.getElem?_append_right hi]at hx;have hi':i=m.length:=by have:=(Zg.1 hx).1;simp at this;omega
  subst hi';have:x=r:=by simpa using hx.symm
  subst this;exact⟨B,c,by rw[List.getElem?_append_right (by omega),hl];simp,hr,h1,h2⟩
theorem zhp(B:Option Addr)(n c:Nat):∀u∈[Value.slice B n c],u.oneCell'=true:=by
 intro u hu;obtain rfl:u= .slice B n c:=by simpa using hu
 rfl
theorem zci(g:Bool)(B:Option Addr)(n c:Nat):∀u∈[Value.bool g,Value.slice B n c],u.oneCell'=true:=by
 intro u hu;rcases List.mem_cons.1 hu with rfl|hu
 ·rfl
 ·obtain rfl:u= .slice B n c:=by simpa using hu
  rfl
theorem zhq{R:List Nat}(h:Ints w A 3 .i64 (zZ R)){q:Nat}(hq:q<R.length):∃b o,A=some ⟨b,o,none⟩/\w.cell? ⟨b,o+q,none⟩=some (.int .i64 (R.getD q 0:Nat))/\b<w.heap.size:=by
 obtain⟨b,o,x,hA,hx,hc,hb⟩:=h.at_ (i:=q) (by rw[zd5];exact hq);have:x=((R.getD q 0:Nat):Int):=by
  simp[zZ,hq]at hx;rw[<-hx];simp[List.getD,hq]
 subst this;exact⟨b,o,hA,hc,hb⟩
theorem zd6{w2:World}{AR AC:Option Addr}{cR cC:Nat}{R C:List Nat}(hm':MatV w0 A m)(hR':Ints w1 AR 3 .i64 (zZ R))(hC':Ints w2 AC 3 .i64 (zZ C))(hn:AllLen m n)(hRl:R.length<=1000)(hCl:C.length<=1000)(hRb:∀x∈R,x<m.length)(hCb:∀x∈C,x<n)[hx:Ext w0 w][hy:Ext w1 w][hz:Ext w2 w]:
  Cq 152 #[.slice A m.length c,.slice AR R.length cR,.slice AC C.length cC] w (jx w (zV m R C)):=by
 have hm:=hm'.ext hx;have hR:=hR'.ext hy;have hC:=hC'.ext hz;have HA:=Zh hn;have HRB:=Zh hRb;have HCB:=Zh hCb;obtain⟨ml,zuX⟩:=Yz m.length;have HML:=Zh zuX;rw[zuX];clear hn hRb hCb hm' hR' hC' zuX;go_enter Tryz.func152,Tryz.ntmps152;go_wp2;go_loopw [7,9,10,12,15] (fun s7 _ _ _ i wr=>∃(k:Nat) (A1:Option Addr) (c1:Nat) (vs:List Value),k<=R.length/\i= .int .i64 k/\s7= .slice A1 k c1/\Hid (Own wr w.heap.size 94 1 A1 k c1 vs)/\Hid (RowsOf wr vs ((zV m R C).take k))/\Ext w wr) (fun _ _ _ _ i _=>R.length-(intOf i).toNat)
 case atStart=>exact⟨0,none,0,[],by omega,rfl,rfl,Zh (Own.nil _ _ _ _),Zh (fun i r hr=>by simp at hr),Zi⟩
 case round=>
  obtain⟨k,A1,c1,vs,hk,rfl,rfl,HO,HRS,hxr⟩:=hrel;obtain⟨wo,rfl⟩:∃wo:World,wo=wr:=⟨_,rfl⟩;by_cases hlt:k<R.length
  ·obtain⟨bR,oR,rfl,hcR,hbR⟩:=zhq (hR.ext hxr) hlt;obtain⟨ri,hri⟩:=Yz (R.getD k 0);rw[hri]at hcR;have zw0:ri<ml:=by rw[<-HML.out,<-hri];exact HRB.out _ (by simp[List.getD,hlt])
   have HRI:=Zh hri;clear hri;obtain⟨row,zr6⟩:∃row,row=C.map fun j=>ent m ri j:=⟨_,rfl⟩
   have HRW:=Zh zr6;have HRL:Hid (row.length=C.length):=Zh (by rw[zr6];simp);clear zr6;go_wp2;go_loopw [10,12,21] (fun s10 _ j wr=>∃(q:Nat) (A2:Option Addr) (c2:Nat) (vs2:List Value),q<=C.length/\j= .int .i64 q/\s10= .slice A2 q c2/\Hid (Own wr wo.heap.size 149 2 A2 q c2 vs2)/\Hid (VsOf wr vs2 (row.take q))/\Ext wo wr) (fun _ _ j _=>C.length-(intOf j).toNat)
   case atStart=>exact⟨0,none,0,[],by omega,rfl,rfl,Zh (Own.nil _ _ _ _),Zh (fun i z hz=>by simp at hz),Zi⟩
   case round=>
    obtain⟨q,A2,c2,vs2,hq,rfl,rfl,HO2,HV2,hxq⟩:=hrel;have zsP:Ext w wr:=hxr.trans hxq;by_cases zsb:q<C.length
    ·obtain⟨bC,oC,rfl,hcC,hbC⟩:=zhq (hC.ext zsP) zsb;obtain⟨cj,hcj⟩:=Yz (C.getD q 0);rw[hcj]at hcC;have zw1:cj<n:=by rw[<-hcj];exact HCB.out _ (by simp[List.getD,zsb])
     have HEN:Hid (row.getD q 0=ent m ri cj):=Zh (by rw[HRW.out,<-hcj];simp[List.getD,zsb]);clear hcj;obtain⟨b,o,b',o',c',g,B,k',d,rfl,e1,e2,e3,hz3,hb1,hb2,-,-⟩:=(hm.ext zsP).entry HA.out (i:=ri) (j:=cj) (by rw[HML.out];exact zw0) zw1;have HZ3:=Zh hz3;clear hz3;go_wp2_with (at_builtin;refine zM _ rfl _ _ 94 rfl wo.heap.size 149 (.agg #[.bool false,.slice none 0 0]) 2 32 Tryz.underlying94 jd rfl (by omega) (by omega) A2 q c2 vs2 rfl (HO2.out.ext Zi) (some ⟨wr.heap.size,0,none⟩) 1 1 [.bool g,.slice B k' d] rfl (Arr.new wr 149 #[.bool g,.slice B k' d]) rfl (zci _ _ _ _) (by omega) (by have:=hxq.size;simp;omega) ?_;intro A3 c3 w3 zr5 hg;have HO3:=Zh zr5;have HG3:=Zh hg;have hx3:Ext wo w3:=hg.ext Zi Zr;clear zr5 hg)
     refine⟨⟨q+1,A3,c3,vs2++[.bool g,.slice B k' d],by omega,by go_num,rfl,HO3,Zh ?_,hx3⟩,by simp[intOf]<;>omega⟩;have hxa:Ext wr (wr.alloc (.cells #[.bool g,.slice B k' d] 149)):=Zi;have hv5:VsOf (wr.alloc (.cells #[.bool g,.slice B k' d] 149)) (vs2++[.bool g,.slice B k' d]) (row.take q++[row.getD q 0]):=VsOf.snoc (HV2.out.map fun hz=>hz.ext hxa) (by rw[HO2.out.len,List.length_take,HRL.out,Nat.min_eq_left hq]) (by rw[HEN.out];exact HZ3.out.ext hxa)
     rw[zas (by rw[HRL.out];exact zsb)];exact hv5.grow HG3.out (by decide)
    ·obtain rfl:q=C.length:=by omega
     have hI:IntsV wr A2 row:=by
      have:=HV2.out;rw[List.take_of_length_le (by rw[HRL.out];exact Zr)]at this;exact this.intsV (by rw[HO2.out.len,HRL.out]) HO2.out.arr (Ext.refl _)
     have HI:=Zh hI;have HCP:=Zh HO2.out.cap;clear hI;go_wp2_with (at_builtin;refine zM _ rfl _ _ 79 rfl w.heap.size 94 (.slice none 0 0) 1 24 Tryz.underlying79 zaW rfl (by omega) (by omega) A1 k c1 vs rfl ((HO.out.ext hxq).ext Zi) (some ⟨wr.heap.size,0,none⟩) 1 1 [.slice A2 C.length c2] rfl (Arr.new wr 94 #[.slice A2 C.length c2]) rfl (zhp _ _ _) (by omega) (by have:=zsP.size;simp;omega) ?_;intro A3 c3 w3 zr5 hg;have HO3:=Zh zr5;have HG3:=Zh hg;have hx3:Ext w w3:=hg.ext Zi Zr;clear zr5 hg)
     refine⟨⟨k+1,A3,c3,vs++[.slice A2 C.length c2],by omega,by go_num,rfl,HO3,Zh ?_,hx3⟩,by simp[intOf]<;>omega⟩;have hxa:Ext wr (wr.alloc (.cells #[.slice A2 C.length c2] 94)):=Zi;have hl:(zV m R C).length=R.length:=by simp[zV]
     have hv5:RowsOf (wr.alloc (.cells #[.slice A2 C.length c2] 94)) (vs++[.slice A2 row.length c2]) ((zV m R C).take k++[row]):=RowsOf.snoc (HRS.out.map fun hz=>(hz.ext hxq).ext hxa) (by have:=HO.out.len;rw[List.length_take,hl,Nat.min_eq_left hk];omega) (HI.out.ext hxa) (by rw[HRL.out];exact HCP.out.1) HCP.out.2;have e:(zV m R C).take (k+1)=(zV m R C).take k++[row]:=by
      rw[List.take_succ_eq_append_getElem (by rw[hl];exact hlt),HRW.out,<-HRI.out];congr 2
      simp[zV,List.getD,hlt]
     rw[e,<-HRL.out];exact hv5.map fun hz=>hz.grow HG3.out (by decide) (by decide)
  ·obtain rfl:k=R.length:=by omega
   go_wp2;go_ret;have hl:(zV m R C).length=R.length:=by simp[zV]
   have h1:=HRS.out;rw[List.take_of_length_le (by rw[hl];exact Zr)]at h1;exact⟨A1,c1,by rw[hl];rfl,⟨vs,by have:=HO.out.len;rw[hl];omega,HO.out.arr,h1⟩,by rw[hl];exact HO.out.cap.1,HO.out.cap.2,hxr.toStep⟩
theorem OwnI.heapRow{lo g:Nat}{hs:List (Nat×Nat)}{a:List (List Int)}(h:OwnI w lo g n hs a)(hp:hs[i]? =some (b,c))(hi:i<a.length):∃cs,w.heap[b]? =some (.cells cs 149 (0,0)):=by
 obtain⟨r,hr⟩:∃r,a[i]? =some r:=⟨_,Ze hi⟩;exact(h.row i _ r hp hr).heap
theorem jM{W:World}{x y o:Nat}{u v:Value}(h:c≠b∨(o≠x/\o≠y)):((W.setCell ⟨b,x,none⟩ u).setCell ⟨b,y,none⟩ v).cell? ⟨c,o,none⟩=W.cell? ⟨c,o,none⟩:=by
 rw[World.cell?_setCell_other _ _ _ _ (by intro e;injection e with e1 e2;omega),World.cell?_setCell_other _ _ _ _ (by intro e;injection e with e1 e2;omega)]
theorem zny(h:x≠0):(zk x 0==0)=false:=by
 unfold zk;by_cases h1:x<0
 ·rw[if_pos h1];rfl
 ·rw[if_neg h1,if_neg h];rfl
set_option linter.unusedSimpArgs false in
set_option maxRecDepth 20000 in
theorem zd7(h:MatV w0 A m)(h1:m.length=n)(h3:1<=n)(h4:n<=8)(hn:AllLen m n)(hb:BdM b m)(hb1:1<=b)(hbb:b<=1000000)[hx:Ext w0 w]:
  Cq 116 #[.slice A n c] w (zD w (detF m)):=by
 have HCP:=Zh (fun W(hh:Ext w W)=>have:Ext w0 W:=hx.trans hh;zhn (w:=W) (c:=c) h n n h1 (by omega) h3 (by omega) hn (fun i j=>⟨b,by omega,hb i j⟩));obtain⟨D,hD⟩:=Yz (detF m);rw[hD];have HST:Hid (DetI n 0 b 1 false m D):=Zh ⟨by rw[<-hD];unfold detF;rw[h1,Nat.sub_zero],by decide,by rw[zcd];exact Bd.one hb1,by rw[zcd];exact hb⟩;have HML:=Zh h1;have zvF:∀k,k<=n->ZQ b k<=256256256:=fun k hk=>by have:=zhd (b:=b) (s:=k) (by omega);omega
 have HBT:=Zh zvF;clear hD hn h1 zvF hb;go_enter Tryz.func116,Tryz.ntmps116;go_wp2_with (first
  |(go_at_call 63;refine(HCP.out _ Zi).mono ?_;rintro e w2 ⟨g,hs,cz,rfl,hO,zsn,zsE,hs2⟩;rw[HML.out]at zsn|-;have HO:=Zh hO;clear hO)
  |(go_at_call 88;refine(Qf 1 (by omega) (by omega) _).mono ?_;rintro e w3 ⟨g3,B3,k3,d3,rfl,hz3,hs3⟩))
 have HZ3:=Zh hz3;clear hz3;have zya:w.heap.size<w3.heap.size:=(Zi:Old w.heap.size w3).lt;have zyb:w2.heap.size<=w3.heap.size:=(Zi:Ext w2 w3).size;obtain⟨pl,hpl⟩:=Xz w3.heap.size;go_loopg [6,7,8,9,10] n (fun gk s6 s7 _ _ _ wr=>∃(k:Nat) (neg:Bool) (ze:Int) (hs:List (Nat×Nat)) (a:List (List Int)),k<=n/\gk=n-k/\s7= .int .i64 k/\s6= .bool neg/\Hid (DetI n k b ze neg a D)/\Hid (OwnI wr (w.heap.size+1) g n hs a)/\Hid (a.length=n)/\Hid (∀q∈hs,q.1<w3.heap.size)/\Hid (Box wr w3.heap.size ze)/\Hid (wr.heap[w.heap.size]? =some (.cells #[.bool false,.slice none 0 0] 149 (0,0)))/\Ext w wr)
 case atStart=>
  refine⟨0,false,1,hs,m,by omega,by omega,rfl,rfl,HST,Zh (by have:=HO.out.ext (Zi:Ext w2 (w3.alloc (.cells #[.bool g3,.slice B3 k3 d3] 149)));simpa using this),HML,Zh (fun q hq=>by have:=HO.out.old q hq;omega),Zh ⟨g3,B3,k3,d3,BlkAt.eq,HZ3.out.keeps⟩,Zh BlkAt.eq,Zi⟩
 case round=>
  obtain⟨k,neg,ze,hs,a,hk,rfl,rfl,rfl,HI,HO,HAL,HLT,HB,HR,hxr⟩:=hrel;obtain⟨wo,rfl⟩:∃wo:World,wo=wr:=⟨_,rfl⟩;by_cases hlt:k<n
  ·go_wp2_with fail
   go_loopw [8] (fun s8 wr=>∃p:Nat,k<=p/\p<=n/\s8= .int .i64 p/\Hid (ZP a k (n-k) k=ZP a k (n-p) p)/\Ext wo wr) (fun s8 _=>n-(intOf s8).toNat)
   case atStart=>exact⟨k,by omega,by omega,rfl,Zh rfl,Zi⟩
   case round=>
    obtain⟨p,hkp,hpn,rfl,HP,hxp⟩:=hrel;obtain⟨wp,rfl⟩:∃wp:World,wp=wr:=⟨_,rfl⟩;by_cases hpl:p<n
    ·obtain⟨b1,c1,hp1,d1,d2,d3,d4,d5,d6⟩:=(HO.out.ext hxp).hdr (i:=p) (by rw[HAL.out];exact hpl);obtain⟨s1,B1,n1,c2,e1,e2,hz1,-,-⟩:=(HO.out.ext hxp).entry (i:=p) (j:=k) hp1 (by rw[HAL.out];exact hpl) hlt;have l1:=hz1.bd (HI.out.ba p k) (by have:=HBT.out k hk;omega);have HSG:=Zh (fun W(hh:Ext wp W)=>QT (w:=W) hz1 (by omega));by_cases h0:ent a p k=0
     ·have HP2:=Zh (HP.out.trans (znw hpl h0));rw[q9 h0]at HSG;clear hz1 l1 hp1 h0;go_wp2_with (go_at_call 150;refine(HSG.out _ Zi).mono ?_;rintro e w6 ⟨rfl,hs6⟩)
      exact⟨⟨p+1,by omega,by omega,by go_num,HP2,Zi⟩,by simp[intOf]<;>omega⟩
     ·have HP2:=Zh (HP.out.trans (znx hpl h0));have hne:=zny h0;have HNE:=Zh h0;generalize zk (ent a p k) 0=cs at*
      clear hz1 l1 hp1 h0;go_upto_if 44 with (go_at_call 150;refine(HSG.out _ Zi).mono ?_;rintro e w6 ⟨rfl,hs6⟩)
      have hx6:Ext wo w6:=hxp.trans Zi;have zw2:Ext w w6:=hxr.trans hx6;go_cut [6] (fun s6 wx=>∃(neg2:Bool) (hs2:List (Nat×Nat)) (a2:List (List Int)),s6= .bool neg2/\Hid (DetP n k b ze neg2 a2 D)/\Hid (OwnI wx (w.heap.size+1) g n hs2 a2)/\Hid (a2.length=n)/\Hid (∀q∈hs2,q.1<w3.heap.size)/\Hid (Box wx w3.heap.size ze)/\Hid (wx.heap[w.heap.size]? =some (.cells #[.bool false,.slice none 0 0] 149 (0,0)))/\Ext w wx)
      case first=>
       by_cases hgt:k<p
       ·obtain⟨b2,c2,hp2,e1,e2,e3,e4,e5,e6⟩:=(HO.out.ext hx6).hdr (i:=p) (by rw[HAL.out];exact hpl);obtain⟨b3,c3,hp3,f1,f2,f3,f4,f5,f6⟩:=(HO.out.ext hx6).hdr (i:=k) (by rw[HAL.out];exact hlt);have HSW:=Zh ((HO.out.ext hx6).swap hp2 hp3 (by rw[HAL.out];exact hpl) (by rw[HAL.out];exact hlt));have HDP:=Zh (HI.out.swap HAL.out hgt hpl HP2.out HNE.out);have HQ2:=Zh hp2;have HQ3:=Zh hp3;clear hp2 hp3
        go_wp2_with fail
        go_region
        all_goals
         go_wp2_with fail
         go_meet
         refine⟨!neg,(hs.set p (b3,c3)).set k (b2,c2),jk a p k,rfl,HDP,Zh ?_,Zh ?_,Zh ?_,Zh ?_,Zh ?_,?_⟩
         ·have hsw:=HSW.out;simp only[ZI]at hsw;exact hsw.ext Zi
         ·have:=HAL.out;simp[jk,this]
         ·intro q hq;rcases List.mem_or_eq_of_mem_set hq with hq|rfl
          ·rcases List.mem_or_eq_of_mem_set hq with hq|rfl
           ·exact HLT.out q hq
           ·exact HLT.out _ (Zm HQ3.out)
          ·exact HLT.out _ (Zm HQ2.out)
         ·exact((HB.out.ext hx6).oth (Oth.set2 (HO.out.ext hx6).head p k (.slice (some ⟨b3,0,none⟩) n c3) (.slice (some ⟨b2,0,none⟩) n c2)) (by decide) (by decide)).ext Zi
         ·have hgl:=HO.out.glo;exact qe (qe (zj hx6 HR.out) (p:=⟨g,p,none⟩) (by simp;omega) _) (p:=⟨g,k,none⟩) (by simp;omega) _
         ·have hgl:New g w:=⟨by have:=HO.out.glo;omega⟩;exact Zi
       ·have hpk:p=k:=by omega
        have HDP:Hid (DetP n k b ze neg a D):=Zh (by
         have h1:=HP2.out;have h2:=HNE.out;rw[hpk]at h1 h2;exact HI.out.same hlt h1 h2)
        clear hpk;go_wp2_with fail
        go_meet
        exact⟨neg,hs,a,rfl,HDP,Zh (HO.out.ext hx6),HAL,HLT,Zh (HB.out.ext hx6),Zh (zj hx6 HR.out),zw2⟩
      case rest=>
       obtain⟨neg2,hs2,a2,rfl,HDP,HO2,zrL,zrh,HB2,HR2,hxc⟩:=hcut;have HEL:=Zh (zns (ze:=ze) zrL.out HO2.out.all (k:=k));go_wp2_with fail
       go_loopw [9,10] (fun s9 _ wr=>∃i:Nat,k+1<=i/\i<=n/\s9= .int .i64 i/\Hid (OwnI wr (w.heap.size+1) g n hs2 (tab (qX k ze a2 i (k+1)) n n))/\Hid (Box wr w3.heap.size ze)/\Hid (wr.heap[w.heap.size]? =some (.cells #[.bool false,.slice none 0 0] 149 (0,0)))/\Ext w wr) (fun s9 _ _=>n-(intOf s9).toNat)
       case atStart=>exact⟨k+1,by omega,by omega,by go_num,Zh (by rw[HEL.out];exact HO2.out),HB2,HR2,hxc⟩
       case round=>
        obtain⟨i,hki,hin,rfl,HO3,HB3,HR3,hx3⟩:=hrel;by_cases hil:i<n
        ·go_wp2_with fail
         go_loopw [10] (fun s10 wr=>∃j:Nat,k+1<=j/\j<=n/\s10= .int .i64 j/\Hid (OwnI wr (w.heap.size+1) g n hs2 (tab (qX k ze a2 i j) n n))/\Hid (Box wr w3.heap.size ze)/\Hid (wr.heap[w.heap.size]? =some (.cells #[.bool false,.slice none 0 0] 149 (0,0)))/\Ext w wr) (fun s10 _=>n-(intOf s10).toNat)
         case atStart=>exact⟨k+1,by omega,by omega,by go_num,HO3,HB3,HR3,hx3⟩
         case round=>
          obtain⟨j,hkj,hjn,rfl,HO4,HB4,HR4,hx4⟩:=hrel;by_cases hjl:j<n
          ·have hML:(tab (qX k ze a2 i j) n n).length=n:=zw _ _ _;obtain⟨bk,ck,hqk,k1,k2,k3',k4,k5,k6⟩:=HO4.out.hdr (i:=k) (by rw[hML];exact hlt);obtain⟨bi,ci,hqi,i1,i2,i3,i4,i5,i6⟩:=HO4.out.hdr (i:=i) (by rw[hML];exact hil);obtain⟨s1,B1,n1,c1',x1,x2,hz1,-,-⟩:=HO4.out.entry (i:=k) (j:=k) hqk (by rw[hML];exact hlt) hlt;obtain⟨s2,B2,n2,c2',y1,y2,hz2,-,-⟩:=HO4.out.entry (i:=i) (j:=j) hqi (by rw[hML];exact hil) hjl
           obtain⟨s3,B3',n3,c3',z1,z2,hz3,-,-⟩:=HO4.out.entry (i:=i) (j:=k) hqi (by rw[hML];exact hil) hlt;obtain⟨s4,B4',n4,c4',t1,t2,hz4,-,-⟩:=HO4.out.entry (i:=k) (j:=j) hqk (by rw[hML];exact hlt) hjl;rw[zch hlt hlt (by omega)]at hz1;rw[zch hil hjl (by omega)]at hz2;rw[zch hil hlt (by omega)]at hz3;rw[zch hlt hjl (by omega)]at hz4;obtain⟨g5,B5,n5,c5,hbk,p1,p2,p3,p4,p5,hz5⟩:=HB4.out.cells
           have hK:=HBT.out k hk;have l1:=hz1.bd (HDP.out.ba k k) (by omega);have l2:=hz2.bd (HDP.out.ba i j) (by omega);have l3:=hz3.bd (HDP.out.ba i k) (by omega);have l4:=hz4.bd (HDP.out.ba k j) (by omega);have l5:=hz5.bd HDP.out.bl (by omega);have HM1:=Zh (fun W(hh:Ext wr W)=>Jf (w:=W) hz1 hz2 (by omega) (by omega));have HM2:=Zh (fun W(hh:Ext wr W)=>Jf (w:=W) hz3 hz4 (by omega) (by omega));have HP1:Hid (Bd (2*ZQ b k) (ent a2 k k*ent a2 i j)/\Bd (2*ZQ b k) (ent a2 i k*ent a2 k j)/\Bd (2*ZQ b k+1) (ent a2 k k*ent a2 i j-ent a2 i k*ent a2 k j)):=Zh (by
            have q1:=(HDP.out.ba k k).mul (HDP.out.ba i j);have q2:=(HDP.out.ba i k).mul (HDP.out.ba k j);rw[show ZQ b k+ZQ b k=2*ZQ b k by omega]at q1 q2;exact⟨q1,q2,q1.sub q2⟩)
           have HEV:Hid (Zf (tab (qX k ze a2 i j) n n) i j ((ent a2 k k*ent a2 i j-ent a2 i k*ent a2 k j) / ze)=tab (qX k ze a2 i (j+1)) n n):=Zh (znt hil hjl (by omega) (by omega));generalize ent a2 k k*ent a2 i j=P1 at*
           generalize ent a2 i k*ent a2 k j=P2 at*
           have HSU:Hid (∀(W1 W2 W:World)(ga:Bool)Ba na ca(gb:Bool)Bb nb cb,IntV W1 ga Ba na ca P1->IntV W2 gb Bb nb cb P2->Ext W1 W->Ext W2 W->Cq 159 #[.agg #[.bool ga,.slice Ba na ca],.agg #[.bool gb,.slice Bb nb cb]] W (zD W (P1-P2))):=Zh (fun W1 W2 W ga Ba na ca gb Bb nb cb ha hb e1 e2=>zdf ha hb (by have:=ha.bd HP1.out.1 (by omega);omega) (by have:=hb.bd HP1.out.2.1 (by omega);omega))
           have HQU:Hid (∀(W1 W:World)(ga:Bool)Ba na ca,IntV W1 ga Ba na ca (P1-P2)->Ext W1 W->Ext wr W->Cq 161 #[.agg #[.bool ga,.slice Ba na ca],.agg #[.bool g5,.slice B5 n5 c5]] W (zD W ((P1-P2) / ze))):=Zh (fun W1 W ga Ba na ca ha e1 e2=>zbn ha hz5 (ha.bd HP1.out.2.2 (by omega)) l5 HDP.out.l0);have HQI:=Zh hqi;have hlo:=HO4.out.lo_row hqi;have zuY:=zrh.out _ (Zm hqi);obtain⟨csi,zvG⟩:=HO4.out.heapRow hqi (by rw[hML];exact hil)
           have HCS:=Zh zvG;have HLL:Hid (∀W,Ext wr W->W.cell? ⟨g,k,none⟩=some (.slice (some ⟨bk,0,none⟩) n ck)/\W.cell? ⟨g,i,none⟩=some (.slice (some ⟨bi,0,none⟩) n ci)/\W.cell? ⟨bk,k*2,none⟩=some (.bool s1)/\W.cell? ⟨bk,k*2+1,none⟩=some (.slice B1 n1 c1')/\W.cell? ⟨bi,j*2,none⟩=some (.bool s2)/\W.cell? ⟨bi,j*2+1,none⟩=some (.slice B2 n2 c2')/\W.cell? ⟨bi,k*2,none⟩=some (.bool s3)/\W.cell? ⟨bi,k*2+1,none⟩=some (.slice B3' n3 c3')/\W.cell? ⟨bk,j*2,none⟩=some (.bool s4)/\W.cell? ⟨bk,j*2+1,none⟩=some (.slice B4' n4 c4')/\W.cell? ⟨w3.heap.size,0,none⟩=some (.bool g5)/\W.cell? ⟨w3.heap.size,1,none⟩=some (.slice B5 n5 c5)):=Zh (fun W hh=>
            ⟨(hh.below.cell (p:=⟨g,k,none⟩) k6).trans k1,(hh.below.cell (p:=⟨g,i,none⟩) i6).trans i1,(hh.below.cell (p:=⟨bk,k*2,none⟩) k5).trans x1,(hh.below.cell (p:=⟨bk,k*2+1,none⟩) k5).trans x2,(hh.below.cell (p:=⟨bi,j*2,none⟩) i5).trans y1,(hh.below.cell (p:=⟨bi,j*2+1,none⟩) i5).trans y2,(hh.below.cell (p:=⟨bi,k*2,none⟩) i5).trans z1,(hh.below.cell (p:=⟨bi,k*2+1,none⟩) i5).trans z2,(hh.below.cell (p:=⟨bk,j*2,none⟩) k5).trans t1,(hh.below.cell (p:=⟨bk,j*2+1,none⟩) k5).trans t2,(hh.below.cell (p:=⟨w3.heap.size,0,none⟩) p5).trans p1,(hh.below.cell (p:=⟨w3.heap.size,1,none⟩) p5).trans p2⟩)
           have HLS:Hid (∀W,Ext wr W->W.cell? ⟨g,k,none⟩=some (.slice (some ⟨bk,0,none⟩) n ck)/\W.cell? ⟨g,i,none⟩=some (.slice (some ⟨bi,0,none⟩) n ci)/\W.cell? ⟨bk,k*2,none⟩=some (.bool s1)/\W.cell? ⟨bk,k*2+1,none⟩=some (.slice B1 n1 c1')/\W.cell? ⟨bi,k*2,none⟩=some (.bool s3)/\W.cell? ⟨bi,k*2+1,none⟩=some (.slice B3' n3 c3')/\W.cell? ⟨bk,j*2,none⟩=some (.bool s4)/\W.cell? ⟨bk,j*2+1,none⟩=some (.slice B4' n4 c4')/\W.cell? ⟨w3.heap.size,0,none⟩=some (.bool g5)/\W.cell? ⟨w3.heap.size,1,none⟩=some (.slice B5 n5 c5)):=Zh (fun W hh=>by
            obtain⟨h1,h2,h3,h4,-,-,h7,h8,h9,h10,h11,h12⟩:=HLL.out W hh;exact⟨h1,h2,h3,h4,h7,h8,h9,h10,h11,h12⟩)
           have HIJ:Hid (∀W,Ext wr W->W.cell? ⟨bi,j*2,none⟩=some (.bool s2)/\W.cell? ⟨bi,j*2+1,none⟩=some (.slice B2 n2 c2')):=Zh (fun W hh=>by
            obtain⟨-,-,-,-,h5,h6,-⟩:=HLL.out W hh;exact⟨h5,h6⟩)
           have zyc:bk≠bi:=HO4.out.dist k i _ _ hqk hqi (by omega);have hgi:g≠bi:=HO4.out.gne hqi (by rw[hML];exact hil);have HLF:Hid (∀W,Ext wr W->∀(u v:Value),((W.setCell ⟨bi,j*2,none⟩ u).setCell ⟨bi,j*2+1,none⟩ v).cell? ⟨g,k,none⟩=some (.slice (some ⟨bk,0,none⟩) n ck)/\((W.setCell ⟨bi,j*2,none⟩ u).setCell ⟨bi,j*2+1,none⟩ v).cell? ⟨g,i,none⟩=some (.slice (some ⟨bi,0,none⟩) n ci)/\((W.setCell ⟨bi,j*2,none⟩ u).setCell ⟨bi,j*2+1,none⟩ v).cell? ⟨bk,k*2,none⟩=some (.bool s1)/\((W.setCell ⟨bi,j*2,none⟩ u).setCell ⟨bi,j*2+1,none⟩ v).cell? ⟨bk,k*2+1,none⟩=some (.slice B1 n1 c1')/\((W.setCell ⟨bi,j*2,none⟩ u).setCell ⟨bi,j*2+1,none⟩ v).cell? ⟨bi,k*2,none⟩=some (.bool s3)/\((W.setCell ⟨bi,j*2,none⟩ u).setCell ⟨bi,j*2+1,none⟩ v).cell? ⟨bi,k*2+1,none⟩=some (.slice B3' n3 c3')/\((W.setCell ⟨bi,j*2,none⟩ u).setCell ⟨bi,j*2+1,none⟩ v).cell? ⟨bk,j*2,none⟩=some (.bool s4)/\((W.setCell ⟨bi,j*2,none⟩ u).setCell ⟨bi,j*2+1,none⟩ v).cell? ⟨bk,j*2+1,none⟩=some (.slice B4' n4 c4')/\((W.setCell ⟨bi,j*2,none⟩ u).setCell ⟨bi,j*2+1,none⟩ v).cell? ⟨w3.heap.size,0,none⟩=some (.bool g5)/\((W.setCell ⟨bi,j*2,none⟩ u).setCell ⟨bi,j*2+1,none⟩ v).cell? ⟨w3.heap.size,1,none⟩=some (.slice B5 n5 c5)):=Zh (fun W hh u v=>by
            obtain⟨h1,h2,h3,h4,h5,h6,h7,h8,h9,h10⟩:=HLS.out W hh;exact⟨(jM (by omega)).trans h1,(jM (by omega)).trans h2,(jM (by omega)).trans h3,(jM (by omega)).trans h4,(jM (by omega)).trans h5,(jM (by omega)).trans h6,(jM (by omega)).trans h7,(jM (by omega)).trans h8,(jM (by omega)).trans h9,(jM (by omega)).trans h10⟩)
           have HE:Hid (∀W,Ext wr W->∃s B k' d,W.cell? ⟨bi,j*2,none⟩=some (.bool s)/\W.cell? ⟨bi,j*2+1,none⟩=some (.slice B k' d)/\W.frozen? ⟨bi,j*2,none⟩=false/\W.frozen? ⟨bi,j*2+1,none⟩=false/\bi<W.heap.size):=Zh (fun W hh=>by
            obtain⟨s,B,k',d,a1,a2,-,a4,a5⟩:=(HO4.out.ext hh).entry (i:=i) HQI.out (by rw[hML];exact hil) hjl;exact⟨s,B,k',d,a1,a2,a4,a5,Nat.lt_of_lt_of_le i5 hh.size⟩)
           clear hz1 hz2 hz3 hz4 hz5 l1 l2 l3 l4 l5 hqk hqi zvG hbk x1 x2 y1 y2 z1 z2 t1 t2 p1 p2 p3 p4 k1 k2 i1 i2;go_wp2_with fail
           refine wp_region_held_drew (S:=fun w'=>w'.cell? ⟨g,k,none⟩=some (.slice (some ⟨bk,0,none⟩) n ck)/\w'.cell? ⟨g,i,none⟩=some (.slice (some ⟨bi,0,none⟩) n ci)/\w'.cell? ⟨bk,k*2,none⟩=some (.bool s1)/\w'.cell? ⟨bk,k*2+1,none⟩=some (.slice B1 n1 c1')/\w'.cell? ⟨bi,k*2,none⟩=some (.bool s3)/\w'.cell? ⟨bi,k*2+1,none⟩=some (.slice B3' n3 c3')/\w'.cell? ⟨bk,j*2,none⟩=some (.bool s4)/\w'.cell? ⟨bk,j*2+1,none⟩=some (.slice B4' n4 c4')/\w'.cell? ⟨w3.heap.size,0,none⟩=some (.bool g5)/\w'.cell? ⟨w3.heap.size,1,none⟩=some (.slice B5 n5 c5)) (by kernel_rfl) ?_ (fun hHeld=>?_)
           ·exact HLS.out _ Zi
           refine wpAnyH_take (i:=0) (v:=?_) (by simp only[getElem?_toArray,getElem?_cons_zero,getElem?_cons_succ];rfl) (by kernel_rfl) (by kernel_rfl) (by kernel_rfl) (by exact fun _ _ _ h=>h) (Or.inl ⟨by rfl,?_⟩) (by assumption) ?_;rotate_left
           ·(intro w hSw;(try dsimp only at hSw);go_simp;try(with_reducible rfl))
           try simp only[Act.put,setIfInBounds_toArray,set_cons_zero,set_cons_succ]
           refine wpAnyH_take (i:=1) (v:=?_) (by simp only[getElem?_toArray,getElem?_cons_zero,getElem?_cons_succ];rfl) (by kernel_rfl) (by kernel_rfl) (by kernel_rfl) (by exact fun _ _ _ h=>h) (Or.inl ⟨by rfl,?_⟩) (by assumption) ?_;rotate_left
           ·(intro w hSw;(try dsimp only at hSw);go_simp;try(with_reducible rfl))
           try simp only[Act.put,setIfInBounds_toArray,set_cons_zero,set_cons_succ]
           refine wpAnyH_take (i:=2) (v:=?_) (by simp only[getElem?_toArray,getElem?_cons_zero,getElem?_cons_succ];rfl) (by kernel_rfl) (by kernel_rfl) (by kernel_rfl) (by exact fun _ _ _ h=>h) (Or.inl ⟨by rfl,?_⟩) (by assumption) ?_;rotate_left
           ·(intro w hSw;(try dsimp only at hSw);go_simp;try(with_reducible rfl))
           try simp only[Act.put,setIfInBounds_toArray,set_cons_zero,set_cons_succ]
           refine wpAnyH_take (i:=3) (v:=?_) (by simp only[getElem?_toArray,getElem?_cons_zero,getElem?_cons_succ];rfl) (by kernel_rfl) (by kernel_rfl) (by kernel_rfl) (by exact fun _ _ _ h=>h) (Or.inl ⟨by rfl,?_⟩) (by assumption) ?_;rotate_left
           ·(intro w hSw;(try dsimp only at hSw);go_simp;try(with_reducible rfl))
           try simp only[Act.put,setIfInBounds_toArray,set_cons_zero,set_cons_succ]
           refine wpAnyH_take (i:=4) (v:=?_) (by simp only[getElem?_toArray,getElem?_cons_zero,getElem?_cons_succ];rfl) (by kernel_rfl) (by kernel_rfl) (by kernel_rfl) (by exact fun _ _ _ h=>h) (Or.inl ⟨by rfl,?_⟩) (by assumption) ?_;rotate_left
           ·(intro w hSw;(try dsimp only at hSw);go_simp;try(with_reducible rfl))
           try simp only[Act.put,setIfInBounds_toArray,set_cons_zero,set_cons_succ]
           refine wpAnyH_take (i:=5) (v:=?_) (by simp only[getElem?_toArray,getElem?_cons_zero,getElem?_cons_succ];rfl) (by kernel_rfl) (by kernel_rfl) (by kernel_rfl) (by exact fun _ _ _ h=>h) (Or.inl ⟨by rfl,?_⟩) (by assumption) ?_;rotate_left
           ·(intro w hSw;(try dsimp only at hSw);go_simp;try(with_reducible rfl))
           try simp only[Act.put,setIfInBounds_toArray,set_cons_zero,set_cons_succ]
           refine wpAnyH_take (i:=6) (v:=?_) (by simp only[getElem?_toArray,getElem?_cons_zero,getElem?_cons_succ];rfl) (by kernel_rfl) (by kernel_rfl) (by kernel_rfl) (by exact fun _ _ _ h=>h) (Or.inl ⟨by rfl,?_⟩) (by assumption) ?_;rotate_left
           ·(intro w hSw;(try dsimp only at hSw);go_simp;try(with_reducible rfl))
           try simp only[Act.put,setIfInBounds_toArray,set_cons_zero,set_cons_succ]
           refine wpAnyH_take (i:=7) (v:=?_) (by simp only[getElem?_toArray,getElem?_cons_zero,getElem?_cons_succ];rfl) (by kernel_rfl) (by kernel_rfl) (by kernel_rfl) (by exact fun _ _ _ h=>h) (Or.inl ⟨by rfl,?_⟩) (by assumption) ?_;rotate_left
           ·(intro w hSw;(try dsimp only at hSw);go_simp;try(with_reducible rfl))
           try simp only[Act.put,setIfInBounds_toArray,set_cons_zero,set_cons_succ]
           refine wpAnyH_take (i:=8) (v:=?_) (by simp only[getElem?_toArray,getElem?_cons_zero,getElem?_cons_succ];rfl) (by kernel_rfl) (by kernel_rfl) (by kernel_rfl) (by exact fun _ _ _ h=>h) (Or.inl ⟨by rfl,?_⟩) (by assumption) ?_;rotate_left
           ·(intro w hSw;(try dsimp only at hSw);go_simp;try(with_reducible rfl))
           try simp only[Act.put,setIfInBounds_toArray,set_cons_zero,set_cons_succ]
           refine wpAnyH_take (i:=9) (v:=?_) (by simp only[getElem?_toArray,getElem?_cons_zero,getElem?_cons_succ];rfl) (by kernel_rfl) (by kernel_rfl) (by kernel_rfl) (by exact fun _ _ _ h=>h) (Or.inl ⟨by rfl,?_⟩) (by assumption) ?_;rotate_left
           ·(intro w hSw;(try dsimp only at hSw);go_simp;try(with_reducible rfl))
           try simp only[Act.put,setIfInBounds_toArray,set_cons_zero,set_cons_succ]
           refine wpAnyH_take (i:=10) (v:=?_) (by simp only[getElem?_toArray,getElem?_cons_zero,getElem?_cons_succ];rfl) (by kernel_rfl) (by kernel_rfl) (by kernel_rfl) (by exact fun _ _ _ h=>h) (Or.inl ⟨by rfl,?_⟩) (by assumption) ?_;rotate_left
           ·(intro w hSw;(try dsimp only at hSw);go_simp;try(with_reducible rfl))
           try simp only[Act.put,setIfInBounds_toArray,set_cons_zero,set_cons_succ]
           refine wpAnyH_take (i:=11) (v:=?_) (by simp only[getElem?_toArray,getElem?_cons_zero,getElem?_cons_succ];rfl) (by kernel_rfl) (by kernel_rfl) (by kernel_rfl) (by exact fun _ _ _ h=>h) (Or.inl ⟨by rfl,?_⟩) (by assumption) ?_;rotate_left
           ·(intro w hSw;(try dsimp only at hSw);go_simp;try(with_reducible rfl))
           try simp only[Act.put,setIfInBounds_toArray,set_cons_zero,set_cons_succ]
           refine wpAnyH_take (i:=12) (v:=?_) (by simp only[getElem?_toArray,getElem?_cons_zero,getElem?_cons_succ];rfl) (by kernel_rfl) (by kernel_rfl) (by kernel_rfl) (by exact fun _ _ _ h=>h) (Or.inl ⟨by rfl,?_⟩) (by assumption) ?_;rotate_left
           ·(intro w hSw;(try dsimp only at hSw);go_simp;try(with_reducible rfl))
           try simp only[Act.put,setIfInBounds_toArray,set_cons_zero,set_cons_succ]
           refine wpAnyH_take (i:=13) (v:=?_) (by simp only[getElem?_toArray,getElem?_cons_zero,getElem?_cons_succ];rfl) (by kernel_rfl) (by kernel_rfl) (by kernel_rfl) (by exact fun _ _ _ h=>h) (Or.inl ⟨by rfl,?_⟩) (by assumption) ?_;rotate_left
           ·(intro w hSw;(try dsimp only at hSw);go_simp;try(with_reducible rfl))
           try simp only[Act.put,setIfInBounds_toArray,set_cons_zero,set_cons_succ]
           refine wpAnyH_take (i:=14) (v:=?_) (by simp only[getElem?_toArray,getElem?_cons_zero,getElem?_cons_succ];rfl) (by kernel_rfl) (by kernel_rfl) (by kernel_rfl) (by exact fun _ _ _ h=>h) (Or.inl ⟨by rfl,?_⟩) (by assumption) ?_;rotate_left
           ·(intro w hSw;(try dsimp only at hSw);go_simp;try(with_reducible rfl))
           try simp only[Act.put,setIfInBounds_toArray,set_cons_zero,set_cons_succ]
           refine wpAnyH_take (i:=15) (v:=?_) (by simp only[getElem?_toArray,getElem?_cons_zero,getElem?_cons_succ];rfl) (by kernel_rfl) (by kernel_rfl) (by kernel_rfl) (by exact fun _ _ _ h=>h) (Or.inl ⟨by rfl,?_⟩) (by assumption) ?_;rotate_left
           ·(intro w hSw;(try dsimp only at hSw);go_simp;try(with_reducible rfl))
           try simp only[Act.put,setIfInBounds_toArray,set_cons_zero,set_cons_succ]
           refine wpAnyH_take (i:=16) (v:=?_) (by simp only[getElem?_toArray,getElem?_cons_zero,getElem?_cons_succ];rfl) (by kernel_rfl) (by kernel_rfl) (by kernel_rfl) (by exact fun _ _ _ h=>h) (Or.inl ⟨by rfl,?_⟩) (by assumption) ?_;rotate_left
           ·(intro w hSw;(try dsimp only at hSw);go_simp;try(with_reducible rfl))
           try simp only[Act.put,setIfInBounds_toArray,set_cons_zero,set_cons_succ]
           refine wpAnyH_take (i:=17) (v:=?_) (by simp only[getElem?_toArray,getElem?_cons_zero,getElem?_cons_succ];rfl) (by kernel_rfl) (by kernel_rfl) (by kernel_rfl) (by exact fun _ _ _ h=>h) (Or.inl ⟨by rfl,?_⟩) (by assumption) ?_;rotate_left
           ·(intro w hSw;(try dsimp only at hSw);go_simp;try(with_reducible rfl))
           try simp only[Act.put,setIfInBounds_toArray,set_cons_zero,set_cons_succ]
           refine wpAnyH_take (i:=20) (v:=?_) (by simp only[getElem?_toArray,getElem?_cons_zero,getElem?_cons_succ];rfl) (by kernel_rfl) (by kernel_rfl) (by kernel_rfl) (by exact fun _ _ _ h=>h) (Or.inl ⟨by rfl,?_⟩) (by assumption) ?_;rotate_left
           ·(intro w hSw;(try dsimp only at hSw);go_simp;try(with_reducible rfl))
           try simp only[Act.put,setIfInBounds_toArray,set_cons_zero,set_cons_succ]
           refine wpAnyH_take (i:=21) (v:=?_) (by simp only[getElem?_toArray,getElem?_cons_zero,getElem?_cons_succ];rfl) (by kernel_rfl) (by kernel_rfl) (by kernel_rfl) (by exact fun _ _ _ h=>h) (Or.inl ⟨by rfl,?_⟩) (by assumption) ?_;rotate_left
           ·(intro w hSw;(try dsimp only at hSw);go_simp;try(with_reducible rfl))
           try simp only[Act.put,setIfInBounds_toArray,set_cons_zero,set_cons_succ]
           refine wpAnyH_take (i:=22) (v:=?_) (by simp only[getElem?_toArray,getElem?_cons_zero,getElem?_cons_succ];rfl) (by kernel_rfl) (by kernel_rfl) (by kernel_rfl) (by exact fun _ _ _ h=>h) (Or.inl ⟨by rfl,?_⟩) (by assumption) ?_;rotate_left
           ·(intro w hSw;(try dsimp only at hSw);go_simp;try(with_reducible rfl))
           try simp only[Act.put,setIfInBounds_toArray,set_cons_zero,set_cons_succ]
           refine wpAnyH_take (i:=23) (v:=?_) (by simp only[getElem?_toArray,getElem?_cons_zero,getElem?_cons_succ];rfl) (by kernel_rfl) (by kernel_rfl) (by kernel_rfl) (by exact fun _ _ _ h=>h) (Or.inl ⟨by rfl,?_⟩) (by assumption) ?_;rotate_left
           ·(intro w hSw;(try dsimp only at hSw);go_simp;try(with_reducible rfl))
           try simp only[Act.put,setIfInBounds_toArray,set_cons_zero,set_cons_succ]
           refine wpAnyH_take (i:=24) (v:=?_) (by simp only[getElem?_toArray,getElem?_cons_zero,getElem?_cons_succ];rfl) (by kernel_rfl) (by kernel_rfl) (by kernel_rfl) (by exact fun _ _ _ h=>h) (Or.inl ⟨by rfl,?_⟩) (by assumption) ?_;rotate_left
           ·(intro w hSw;(try dsimp only at hSw);go_simp;try(with_reducible rfl))
           try simp only[Act.put,setIfInBounds_toArray,set_cons_zero,set_cons_succ]
           refine wpAnyH_take (i:=25) (v:=?_) (by simp only[getElem?_toArray,getElem?_cons_zero,getElem?_cons_succ];rfl) (by kernel_rfl) (by kernel_rfl) (by kernel_rfl) (by exact fun _ _ _ h=>h) (Or.inl ⟨by rfl,?_⟩) (by assumption) ?_;rotate_left
           ·(intro w hSw;(try dsimp only at hSw);go_simp;try(with_reducible rfl))
           try simp only[Act.put,setIfInBounds_toArray,set_cons_zero,set_cons_succ]
           refine wpAnyH_take (i:=26) (v:=?_) (by simp only[getElem?_toArray,getElem?_cons_zero,getElem?_cons_succ];rfl) (by kernel_rfl) (by kernel_rfl) (by kernel_rfl) (by exact fun _ _ _ h=>h) (Or.inl ⟨by rfl,?_⟩) (by assumption) ?_;rotate_left
           ·(intro w hSw;(try dsimp only at hSw);go_simp;try(with_reducible rfl))
           try simp only[Act.put,setIfInBounds_toArray,set_cons_zero,set_cons_succ]
           refine wpAnyH_take (i:=27) (v:=?_) (by simp only[getElem?_toArray,getElem?_cons_zero,getElem?_cons_succ];rfl) (by kernel_rfl) (by kernel_rfl) (by kernel_rfl) (by exact fun _ _ _ h=>h) (Or.inl ⟨by rfl,?_⟩) (by assumption) ?_;rotate_left
           ·(intro w hSw;(try dsimp only at hSw);go_simp;try(with_reducible rfl))
           try simp only[Act.put,setIfInBounds_toArray,set_cons_zero,set_cons_succ]
           refine wpAnyH_take (i:=28) (v:=?_) (by simp only[getElem?_toArray,getElem?_cons_zero,getElem?_cons_succ];rfl) (by kernel_rfl) (by kernel_rfl) (by kernel_rfl) (by exact fun _ _ _ h=>h) (Or.inl ⟨by rfl,?_⟩) (by assumption) ?_;rotate_left
           ·(intro w hSw;(try dsimp only at hSw);go_simp;try(with_reducible rfl))
           try simp only[Act.put,setIfInBounds_toArray,set_cons_zero,set_cons_succ]
           refine wpAnyH_take (i:=29) (v:=?_) (by simp only[getElem?_toArray,getElem?_cons_zero,getElem?_cons_succ];rfl) (by kernel_rfl) (by kernel_rfl) (by kernel_rfl) (by exact fun _ _ _ h=>h) (Or.inl ⟨by rfl,?_⟩) (by assumption) ?_;rotate_left
           ·(intro w hSw;(try dsimp only at hSw);go_simp;try(with_reducible rfl))
           try simp only[Act.put,setIfInBounds_toArray,set_cons_zero,set_cons_succ]
           refine wpAnyH_take (i:=30) (v:=?_) (by simp only[getElem?_toArray,getElem?_cons_zero,getElem?_cons_succ];rfl) (by kernel_rfl) (by kernel_rfl) (by kernel_rfl) (by exact fun _ _ _ h=>h) (Or.inl ⟨by rfl,?_⟩) (by assumption) ?_;rotate_left
           ·(intro w hSw;(try dsimp only at hSw);go_simp;try(with_reducible rfl))
           try simp only[Act.put,setIfInBounds_toArray,set_cons_zero,set_cons_succ]
           refine wpAnyH_take (i:=31) (v:=?_) (by simp only[getElem?_toArray,getElem?_cons_zero,getElem?_cons_succ];rfl) (by kernel_rfl) (by kernel_rfl) (by kernel_rfl) (by exact fun _ _ _ h=>h) (Or.inl ⟨by rfl,?_⟩) (by assumption) ?_;rotate_left
           ·(intro w hSw;(try dsimp only at hSw);go_simp;try(with_reducible rfl))
           try simp only[Act.put,setIfInBounds_toArray,set_cons_zero,set_cons_succ]
           refine wpAnyH_take (i:=32) (v:=?_) (by simp only[getElem?_toArray,getElem?_cons_zero,getElem?_cons_succ];rfl) (by kernel_rfl) (by kernel_rfl) (by kernel_rfl) (by exact fun _ _ _ h=>h) (Or.inl ⟨by rfl,?_⟩) (by assumption) ?_;rotate_left
           ·(intro w hSw;(try dsimp only at hSw);go_simp;try(with_reducible rfl))
           try simp only[Act.put,setIfInBounds_toArray,set_cons_zero,set_cons_succ]
           refine wpAnyH_take (i:=33) (v:=?_) (by simp only[getElem?_toArray,getElem?_cons_zero,getElem?_cons_succ];rfl) (by kernel_rfl) (by kernel_rfl) (by kernel_rfl) (by exact fun _ _ _ h=>h) (Or.inl ⟨by rfl,?_⟩) (by assumption) ?_;rotate_left
           ·(intro w hSw;(try dsimp only at hSw);go_simp;try(with_reducible rfl))
           try simp only[Act.put,setIfInBounds_toArray,set_cons_zero,set_cons_succ]
           refine wpAnyH_take (i:=36) (v:=?_) (by simp only[getElem?_toArray,getElem?_cons_zero,getElem?_cons_succ];rfl) (by kernel_rfl) (by kernel_rfl) (by kernel_rfl) (by exact fun _ _ _ h=>h) (Or.inl ⟨by rfl,?_⟩) (by assumption) ?_;rotate_left
           ·(intro w hSw;(try dsimp only at hSw);go_simp;try(with_reducible rfl))
           try simp only[Act.put,setIfInBounds_toArray,set_cons_zero,set_cons_succ]
           refine wpAnyH_ready (rs:=[18]) (by kernel_rfl) (by simp) ?_;refine AllReadyH.cons (by simp only[getElem?_toArray,getElem?_cons_zero,getElem?_cons_succ];rfl) (fun K hK=>?_) AllReadyH.nil;obtain⟨v1',v2'⟩:=HIJ.out wr.drew Zi;go_simp
           refine hK.out _ _ (HLS.out _ Zi) (fun hHeld=>?_);clear hK K;try simp only[Act.put,setIfInBounds_toArray,set_cons_zero,set_cons_succ]
           refine wpAnyH_ready (rs:=[19]) (by kernel_rfl) (by simp) ?_;refine AllReadyH.cons (by simp only[getElem?_toArray,getElem?_cons_zero,getElem?_cons_succ];rfl) (fun K hK=>?_) AllReadyH.nil;go_simp
           (go_at_call 158;refine(HM1.out _ Zi).mono ?_;rintro e wa ⟨ga,Ba,na,ca,rfl,hza,hsa⟩)
           go_wp2_with fail
           refine hK.out _ _ (HLS.out _ Zi) (fun hHeld=>?_);clear hK K;try simp only[Act.put,setIfInBounds_toArray,set_cons_zero,set_cons_succ]
           refine wpAnyH_ready (rs:=[34]) (by kernel_rfl) (by simp) ?_;refine AllReadyH.cons (by simp only[getElem?_toArray,getElem?_cons_zero,getElem?_cons_succ];rfl) (fun K hK=>?_) AllReadyH.nil;go_simp
           (go_at_call 158;refine(HM2.out _ Zi).mono ?_;rintro e wb ⟨gb,Bb,nb,cb,rfl,hzb,hsb⟩)
           go_wp2_with fail
           refine hK.out _ _ (HLS.out _ Zi) (fun hHeld=>?_);clear hK K;try simp only[Act.put,setIfInBounds_toArray,set_cons_zero,set_cons_succ]
           refine wpAnyH_ready (rs:=[35]) (by kernel_rfl) (by simp) ?_;refine AllReadyH.cons (by simp only[getElem?_toArray,getElem?_cons_zero,getElem?_cons_succ];rfl) (fun K hK=>?_) AllReadyH.nil;go_simp
           (go_at_call 159;refine(HSU.out _ _ _ _ _ _ _ _ _ _ _ hza hzb Zi Zi).mono ?_;rintro e wd ⟨gd,Bd',nd,cd,rfl,hzd,hsd⟩)
           go_wp2_with fail
           refine hK.out _ _ (HLS.out _ Zi) (fun hHeld=>?_);clear hK K;try simp only[Act.put,setIfInBounds_toArray,set_cons_zero,set_cons_succ]
           refine wpAnyH_ready (rs:=[37]) (by kernel_rfl) (by simp) ?_;refine AllReadyH.cons (by simp only[getElem?_toArray,getElem?_cons_zero,getElem?_cons_succ];rfl) (fun K hK=>?_) AllReadyH.nil;go_simp
           (go_at_call 161;refine(HQU.out _ _ _ _ _ _ hzd Zi Zi).mono ?_;rintro e we ⟨ge,Be,ne,ce,rfl,hze,hse⟩;obtain⟨s6,B6,k6',n6,f1',f2',f3',f4',f5'⟩:=HE.out we Zi;obtain⟨u1,u2,u3,u4,u5,u6,u7,u8,u9,u10⟩:=HLS.out we Zi)
           go_wp2_with fail
           refine hK.out _ _ (HLS.out _ Zi) (fun hHeld=>?_);clear hK K;try simp only[Act.put,setIfInBounds_toArray,set_cons_zero,set_cons_succ]
           refine wpAnyH_take (i:=38) (v:=?_) (by simp only[getElem?_toArray,getElem?_cons_zero,getElem?_cons_succ];rfl) (by kernel_rfl) (by kernel_rfl) (by kernel_rfl) (by exact fun _ _ _ h=>h) (Or.inl ⟨by rfl,?_⟩) (by assumption) ?_;rotate_left
           ·(intro w hSw;(try dsimp only at hSw);go_simp;try(with_reducible rfl))
           try simp only[Act.put,setIfInBounds_toArray,set_cons_zero,set_cons_succ]
           refine wpAnyH_ready (rs:=[39]) (by kernel_rfl) (by simp) ?_;refine AllReadyH.cons (by simp only[getElem?_toArray,getElem?_cons_zero,getElem?_cons_succ];rfl) (fun K hK=>?_) AllReadyH.nil;go_simp
           refine hK.out _ _ (HLF.out _ Zi _ _) (fun hHeld=>?_);clear hK K;try simp only[Act.put,setIfInBounds_toArray,set_cons_zero,set_cons_succ]
           refine wpAnyH_done (by kernel_rfl) ?_ _;go_wp2_with fail
           refine⟨⟨j+1,by omega,by omega,by go_num,Zh ?_,Zh ?_,Zh ?_,?_⟩,by simp[intOf]<;>omega⟩
           ·have hO5:=(HO4.out.ext (Zi:Ext wr we)).set HQI.out (by rw[hML];exact hil) hjl hze;rw[HEV.out]at hO5;exact hO5
           ·exact(HB4.out.ext (Zi:Ext wr we)).far (zj (Zi:Ext wr we) HCS.out) (by omega) _ _ _ _
           ·exact qe (qe (zj (Zi:Ext wr we) HR4.out) (p:=⟨bi,j*2,none⟩) (by simp;omega) _) (p:=⟨bi,j*2+1,none⟩) (by simp;omega) _
           ·exact((hx4.trans (Zi:Ext wr we)).setCell (p:=⟨bi,j*2,none⟩) (by simp;omega) _).setCell (p:=⟨bi,j*2+1,none⟩) (by simp;omega) _
          ·obtain rfl:j=n:=by omega
           go_wp2_with fail
           exact⟨⟨i+1,by omega,by omega,by go_num,Zh (by rw[<-znu];exact HO4.out),HB4,HR4,hx4⟩,by simp[intOf]<;>omega⟩
        ·obtain rfl:i=n:=by omega
         have hO5:=HO3.out;rw[znv]at hO5;have HO5:=Zh hO5;have hEL:(jl i k ze a2).length=i:=zw _ _ _;obtain⟨bk,ck,hqk,k1,k2,k3',k4,k5,k6⟩:=hO5.hdr (i:=k) (by rw[hEL];exact hlt);obtain⟨s1,B1,n1,c1',x1,x2,hz1,-,-⟩:=hO5.entry (i:=k) (j:=k) hqk (by rw[hEL];exact hlt) hlt;have zvH:ent (jl i k ze a2) k k=ent a2 k k:=by
          unfold jl;rw[j2 _ _ _ _ _ hlt hlt,if_neg (by omega)]
         rw[zvH]at hz1;have HZ1:=Zh hz1;obtain⟨g5,B5,n5,c5,hbk,p1,p2,p3,p4,p5,-⟩:=HB3.out.cells;have HBK:=Zh hbk;have HEK:=Zh hEL;clear hO5 hz1 zvH hqk hbk hEL;go_wp2_with fail
         go_roundg (i-(k+1))
         case measure=>omega
         case rel=>
          exact⟨k+1,neg2,ent a2 k k,hs2,jl i k ze a2,by omega,by omega,by go_num,rfl,Zh HDP.out.next,Zh (HO5.out.far HBK.out (fun q hq=>by have:=zrh.out q hq;omega) _ _ _ _),HEK,zrh,Zh (Box.put HBK.out HZ1.out),Zh (qe (qe HR3.out (p:=⟨w3.heap.size,0,none⟩) (by simp;omega) _) (p:=⟨w3.heap.size,1,none⟩) (by simp;omega) _),(hx3.setCell (p:=⟨w3.heap.size,0,none⟩) (by simp;omega) _).setCell (p:=⟨w3.heap.size,1,none⟩) (by simp;omega) _⟩
    ·obtain rfl:p=n:=by omega
     have HD0:=Zh (HI.out.none hlt (by rw[HP.out,Nat.sub_self];rfl));obtain⟨t1,t2,t3,t4,t5⟩:=zQ (zj hxp HR.out);have tq:Typed w.heap.size 149 wp:=⟨_,_,zj hxp HR.out⟩;have zyd:Ext w wp:=hxr.trans hxp;go_wp2_with fail
     exact bodyPost_ret (v:= .agg #[.bool false,.slice none 0 0]) (by simp[results,Tryz.results116,go_sem,t1,t2]) rfl ⟨_,_,_,_,rfl,by rw[HD0.out];exact IntV.zero _ none 0 (by omega),Step.of _ _⟩
  ·obtain rfl:k=n:=by omega
   obtain⟨g0,B0,n0,c0,hbk,p1,p2,p3,p4,p5,hz0⟩:=HB.out.cells;obtain⟨t1,t2,t3,t4,t5⟩:=zQ HR.out;have oR:Old w.heap.size wo:=⟨t5⟩;have HT:=Zh (And.intro t1 (And.intro t2 (And.intro t3 t4)));have HFI:=Zh HI.out.done;have l0:=hz0.bd HI.out.bl (by have:=HBT.out k Zr;omega);have HZ:=Zh hz0;have HNG:=Zh (fun W(hh:Ext wo W)=>zbY (w:=W) hz0 (by omega));clear hbk hz0 l0
   cases neg
   ·have tq:Typed w.heap.size 149 wo:=⟨_,_,HR.out⟩;go_wp2_with fail
    exact bodyPost_ret (v:= .agg #[.bool g0,.slice B0 n0 c0]) (by simp[results,Tryz.results116,go_sem,t1,t2]) rfl ⟨_,_,_,_,rfl,by rw[HFI.out];exact HZ.out.keeps,Step.of _ _⟩
   ·go_wp2_with (go_at_call 120;refine(HNG.out _ Zi).mono ?_;rintro e w6 ⟨g6,B6,n6,c6,rfl,hz6,hs6⟩;have r3:w6.cell? ⟨w.heap.size,0,none⟩=some (.bool false):=(zi wo).trans HT.out.1;have r4:w6.cell? ⟨w.heap.size,1,none⟩=some (.slice none 0 0):=(zi wo).trans HT.out.2.1;have r5:w6.frozen? ⟨w.heap.size,0,none⟩=false:=(qc wo).trans HT.out.2.2.1;have r6:w6.frozen? ⟨w.heap.size,1,none⟩=false:=(qc wo).trans HT.out.2.2.2;have tq:Typed w.heap.size 149 w6:=⟨_,_,zj (Zi:Ext wo w6) HR.out⟩)
    exact bodyPost_ret (v:= .agg #[.bool g6,.slice B6 n6 c6]) (by simp[results,Tryz.results116,go_sem,r3,r4]) rfl ⟨_,_,_,_,rfl,by rw[HFI.out];exact hz6.keeps,Step.of _ _⟩
theorem zau(m:List (List Int))(R C:List Nat):(zV m R C).length=R.length:=by simp[zV]
theorem zhr(m:List (List Int))(R C:List Nat):AllLen (zV m R C) C.length:=fun r hr=>by
 obtain⟨x,_,rfl⟩:=List.mem_map.1 hr;simp
theorem BdM.sel(h:BdM b m)(R C:List Nat):BdM b (zV m R C):=fun i j=>by
 by_cases hi:i<R.length/\j<C.length
 ·have:ent (zV m R C) i j=ent m (R.getD i 0) (C.getD j 0):=by
   unfold ent zV;simp[List.getD,hi.1,hi.2,ent]
  rw[this];exact h _ _
 ·rw[qO (zhr m R C) (by rw[zau];omega)];exact Bd.zero _
theorem zd8(h:MatV w0 A (zV m (zH k i) (zH k j)))(hk:k<8)(hb:BdM b m)(hb1:1<=b)(hbb:b<=1000000)[hx:Ext w0 w]:
  Cq 116 #[.slice A (k+1) c] w (zD w (detF (zV m (zH k i) (zH k j)))):=
 zd7 h (by rw[zau,qs]) (by omega) (by omega) (by have:=zhr m (zH k i) (zH k j);rwa [qs]at this) (hb.sel _ _) hb1 hbb
theorem zav(hk:k<=n)(hi:i<n):∀x∈zH k i,x<n:=fun x hx=>by
 unfold zH at hx;rcases List.mem_append.1 hx with hx|hx
 ·have:=List.mem_range.1 hx;omega
 ·have:x=i:=by simpa using hx
  omega
section
variable {P:Program} (w:World)
theorem zcj{ops:Array Oper}{rest:List Oper}{o:Oper}{a:Act}{Q:Exit->Act->World->Prop}(hgd:o.guard=none)(s x:Operand)(t:TypeId)
  (ho:o.op= .call {callee:= .builtin .append,args:=#[s,x],argTypes:=#[t,t]})
  (zf:Nat) (e:TypeId) (z:Value) (size bytes:Nat) (ht:P.underlying t=some (.slice e)) (hi:(P.info? e).map (fun i=>(i.zero,i.size,i.bytes))=some (some z,size,bytes))
  (hzs:z.cells.size=size) (hsz:0<size) (hb:bytes<=128)
  (A:Option Addr) (n c:Nat) (xs:List Value) (hs:a.eval s= .slice A n c) (zr5:Own w zf e size A n c xs)
  (ad:Addr) (m c':Nat) (news:List Value) (hx:a.eval x= .slice (some ad) m c') (zsg:Arr w (some ad) e news) (hl:news.length=m*size) (h1:∀u∈news,u.oneCell'=true)
  (h63:n+m<=1099511627776) (zsw:zf<=w.heap.size)
  (h:∀A1 c1 w',Own w' zf e size A1 (n+m) c1 (xs++news)->Grow zf e w w'->Grew A A1 w w'->wpList P ops Q rest (a.put o.dst (.slice A1 (n+m) c1)) w'):wpList P ops Q (o::rest) a w:=
 wpList_plain hgd fun _ hK=>by
  obtain⟨A1,c1,w',zsl,h2,h3,h4⟩:=zgm (P:=P) w zf t o.type e z size bytes ht hi hzs hsz hb A n c xs zr5 ad m c' news zsg hl h1 h63 zsw;unfold Oper.wp execOp;simp only[ho,resolve,invoke,builtin,Sem.run_bind,Sem.run_pure,Result.andThen_ok,List.map_toArray,List.map_cons,List.map_nil,hs,hx,zsl];exact hK _ _ (h A1 c1 w' h2 h3 h4)
end
def Sep(A B:Option Addr):Prop:=∀a b,A=some a->B=some b->a.block≠b.block
theorem Own.grew{size:Nat}{e:TypeId}{A':Option Addr}{xs:List Value}(h:Own w zf e size B n c xs)(hg:Grew A A' w w')(hs:Sep A B):Own w' zf e size B n c xs/\Sep A' B:=by
 refine⟨⟨h.1,?_⟩,fun a' b ha' hb=>?_⟩
 ·rcases h.2 with hv|⟨g,cap,cur,hv,h1,h2,h3⟩
  ·exact .inl hv
  ·refine .inr ⟨g,cap,cur,hv,h1,(hg.block g (zF h2) fun a ha=>?_).trans h2,h3⟩;injection hv with hB
   exact hs a _ ha hB
 ·rcases hg.own a' ha' with ⟨a,ha,hab⟩|hle
  ·rw[<-hab];exact hs a b ha hb
  ·have:=h.blockLt b hb;omega
theorem Sep.symm(h:Sep A B):Sep B A:=fun a b ha hb e=>h b a hb ha e.symm
theorem zck(W:World)(x:Int):Arr (W.alloc (.cells #[.int .i64 x] 3)) (some ⟨W.heap.size,0,none⟩) 3 [.int .i64 x]:=Arr.new W 3 #[.int .i64 x]
theorem zd9(h:MatV w0 A m)(h1:m.length=n)(h4:n<=8)(hn:AllLen m n)(hb:BdM b m)(hb1:1<=b)(hbb:b<=1000000)(hi:i<n)(hj:j<n)[hx:Ext w0 w]:
  Cq 123 #[.slice A n c,.int .i64 i,.int .i64 j] w (zD w (detF (zV m (zH j i) (zH j j)))):=by
 have h0:=h.ext hx;have HSE:Hid (∀(W1 W2 W:World)(A1 A2:Option Addr)(c1 c2:Nat),Ints W1 A1 3 .i64 (zZ (zH j i))->Ints W2 A2 3 .i64 (zZ (zH j j))->Ext w W->Ext W1 W->Ext W2 W->Cq 152 #[.slice A n c,.slice A1 (j+1) c1,.slice A2 (j+1) c2] W (jx W (zV m (zH j i) (zH j j)))):=Zh (fun W1 W2 W A1 A2 c1 c2 e1 e2 x0 x1 x2=>by
  have:=zd6 (w:=W) (c:=c) (cR:=c1) (cC:=c2) h0 e1 e2 hn (by rw[qs];omega) (by rw[qs];omega) (by rw[h1];exact zav (by omega) hi) (zav (by omega) hj);rw[h1,qs,qs]at this;exact this)
 have HDT:Hid (∀(W1 W:World)(A1:Option Addr)(c1:Nat),MatV W1 A1 (zV m (zH j i) (zH j j))->Ext W1 W->Cq 116 #[.slice A1 (j+1) c1] W (zD W (detF (zV m (zH j i) (zH j j))))):=Zh (fun W1 W A1 c1 hM e1=>zd8 hM (by omega) hb hb1 hbb);have hsl:(zV m (zH j i) (zH j j)).length=j+1:=by rw[zau,qs]
 have HSL:=Zh hsl;have hij:i<=1000000:=by omega
 clear hn hb hsl h1;generalize detF (zV m (zH j i) (zH j j))=D at*
 go_enter Tryz.func123,Tryz.ntmps123;go_wp2;go_loopw [7,8,9] (fun s7 s8 s9 wr=>∃(q:Nat) (A1 A2:Option Addr) (c1 c2:Nat),q<=j/\s9= .int .i64 q/\s7= .slice A1 q c1/\s8= .slice A2 q c2/\Hid (Own wr (w.heap.size+1) 3 1 A1 q c1 ((zZ (List.range q)).map (Value.int .i64)))/\Hid (Own wr (w.heap.size+1) 3 1 A2 q c2 ((zZ (List.range q)).map (Value.int .i64)))/\Hid (Sep A1 A2)/\w.heap.size<wr.heap.size/\Hid (wr.heap[w.heap.size]? =some (.cells #[.bool false,.slice none 0 0] 149 (0,0)))/\Ext w wr) (fun _ _ s9 _=>j-(intOf s9).toNat)
 case atStart=>exact⟨0,none,none,0,0,by omega,rfl,rfl,rfl,Zh (Own.nil _ _ _ _),Zh (Own.nil _ _ _ _),Zh (fun a b ha=>by cases ha),by simp,Zh BlkAt.eq,Zi⟩
 case round=>
  obtain⟨q,A1,A2,c1,c2,hq,rfl,rfl,rfl,HO1,HO2,HSP,hsz,HR,hxr⟩:=hrel;by_cases hlt:q<j
  ·go_wp2_with (first
    |(at_builtin;refine zcj _ rfl (.tmp 15) (.tmp 17) 28 rfl (w.heap.size+1) 3 (.int .i64 0) 1 8 Tryz.underlying28 ju rfl (by omega) (by omega) A1 q c1 ((zZ (List.range q)).map (Value.int .i64)) rfl (HO1.out.ext Zi) ⟨wr.heap.size,0,none⟩ 1 1 [.int .i64 q] rfl (zck wr q) rfl (JX _) (by omega) (by simp;omega) ?_;intro A3 c3 w3 zr5 hg hgr;have HO3:=Zh (zat zr5);obtain⟨hoa,hsa⟩:=(HO2.out.ext (Zi:Ext wr (wr.alloc (.cells #[.int .i64 q] 3)))).grew hgr HSP.out;have zri:=Zh hoa;have HSa:=Zh hsa;have HGa:=Zh hg;have zw3:w.heap.size+1<w3.heap.size:=(by have:=hg.below.size;simp at this;omega);have zst:Ext w w3:=hg.ext Zi (by omega);have HRa:=Zh ((hg.below.block w.heap.size (by omega)).trans (zj (Zi:Ext wr (wr.alloc (.cells #[.int .i64 q] 3))) HR.out));clear zr5 hg hgr hoa hsa)
    |(at_builtin;refine zcj _ rfl (.tmp 19) (.tmp 21) 28 rfl (w.heap.size+1) 3 (.int .i64 0) 1 8 Tryz.underlying28 ju rfl (by omega) (by omega) A2 q c2 ((zZ (List.range q)).map (Value.int .i64)) rfl (zri.out.ext Zi) ⟨w3.heap.size,0,none⟩ 1 1 [.int .i64 q] rfl (zck w3 q) rfl (JX _) (by omega) (by simp;omega) ?_;intro A4 c4 w4 zr5 hg hgr;have HO4:=Zh (zat zr5);obtain⟨hoa,hsa⟩:=(HO3.out.ext (Zi:Ext w3 (w3.alloc (.cells #[.int .i64 q] 3)))).grew hgr HSa.out.symm;have zrj:=Zh hoa;have HSb:=Zh hsa;have zvI:w.heap.size<w4.heap.size:=(by have:=hg.below.size;simp at this;omega);have zs3:Ext w w4:=hg.ext Zi (by omega);have HRb:=Zh ((hg.below.block w.heap.size (by omega)).trans (zj (Zi:Ext w3 (w3.alloc (.cells #[.int .i64 q] 3))) HRa.out));clear zr5 hg hgr hoa hsa))
   exact⟨⟨q+1,A3,A4,c3,c4,by omega,by go_num,rfl,rfl,Zh (by rw[zd4];exact zrj.out),Zh (by rw[zd4];exact HO4.out),Zh HSb.out.symm,zvI,HRb,zs3⟩,by simp[intOf]<;>omega⟩
  ·obtain rfl:q=j:=by omega
   have ei:zZ (zH q i)=zZ (List.range q)++[(i:Int)]:=by simp[zZ,zH]
   have ej:zZ (zH q q)=zZ (List.range q)++[(q:Int)]:=by simp[zZ,zH]
   have HEI:=Zh ei;have HEJ:=Zh ej;clear ei ej;go_wp2_with (first
    |(at_builtin;refine zcj _ rfl (.tmp 24) (.tmp 26) 28 rfl (w.heap.size+1) 3 (.int .i64 0) 1 8 Tryz.underlying28 ju rfl (by omega) (by omega) A1 q c1 ((zZ (List.range q)).map (Value.int .i64)) rfl (HO1.out.ext Zi) ⟨wr.heap.size,0,none⟩ 1 1 [.int .i64 i] rfl (zck wr i) rfl (JX _) (by omega) (by simp;omega) ?_;intro A3 c3 w3 zr5 hg hgr;have HO3:=Zh (zat zr5);obtain⟨hoa,hsa⟩:=(HO2.out.ext (Zi:Ext wr (wr.alloc (.cells #[.int .i64 i] 3)))).grew hgr HSP.out;have zri:=Zh hoa;have HSa:=Zh hsa;have zw3:w.heap.size+1<w3.heap.size:=(by have:=hg.below.size;simp at this;omega);have zst:Ext w w3:=hg.ext Zi (by omega);have HRa:=Zh ((hg.below.block w.heap.size (by omega)).trans (zj (Zi:Ext wr (wr.alloc (.cells #[.int .i64 i] 3))) HR.out));clear zr5 hg hgr hoa hsa)
    |(at_builtin;refine zcj _ rfl (.tmp 28) (.tmp 30) 28 rfl (w.heap.size+1) 3 (.int .i64 0) 1 8 Tryz.underlying28 ju rfl (by omega) (by omega) A2 q c2 ((zZ (List.range q)).map (Value.int .i64)) rfl (zri.out.ext Zi) ⟨w3.heap.size,0,none⟩ 1 1 [.int .i64 q] rfl (zck w3 q) rfl (JX _) (by omega) (by simp;omega) ?_;intro A4 c4 w4 zr5 hg hgr;have HO4:=Zh (zat zr5);obtain⟨hoa,hsa⟩:=(HO3.out.ext (Zi:Ext w3 (w3.alloc (.cells #[.int .i64 q] 3)))).grew hgr HSa.out.symm;have zrj:=Zh hoa;have zvI:w.heap.size<w4.heap.size:=(by have:=hg.below.size;simp at this;omega);have zs3:Ext w w4:=hg.ext Zi (by omega);have HRb:=Zh ((hg.below.block w.heap.size (by omega)).trans (zj (Zi:Ext w3 (w3.alloc (.cells #[.int .i64 q] 3))) HRa.out));have hI3:Ints w4 A3 3 .i64 (zZ (zH q i)):=(by rw[HEI.out];exact zrj.out.arr);have hI4:Ints w4 A4 3 .i64 (zZ (zH q q)):=(by rw[HEJ.out];exact HO4.out.arr);clear zr5 hg hgr hoa hsa)
    |(go_at_call 152;refine(HSE.out w4 w4 w4 A3 A4 c3 c4 hI3 hI4 zs3 (Ext.refl _) (Ext.refl _)).mono ?_;rintro e w5 ⟨A5,c5,rfl,hM5,-,-,hs5⟩;rw[HSL.out])
    |(go_at_call 116;refine(HDT.out _ _ _ _ hM5 Zi).mono ?_;rintro e w6 ⟨g6,B6,k6,d6,rfl,hz6,hs6⟩;have HRc:Hid (w6.heap[w.heap.size]? =some (.cells #[.bool false,.slice none 0 0] 149 (0,0))):=Zh (zj (Zi:Ext w4 w6) HRb.out);obtain⟨t1,t2,t3,t4,t5⟩:=zQ HRc.out;have tq:Typed w.heap.size 149 w6:=⟨_,_,HRc.out⟩))
   exact bodyPost_ret (v:= .agg #[.bool g6,.slice B6 k6 d6]) (by simp[results,Tryz.results123,go_sem,t1,t2]) rfl ⟨_,_,_,_,rfl,hz6.keeps,Step.of _ _⟩
end Go.Proofs.YtpcgfpmiphiacaaGreat

import Derived.Test.YtgoaelchibpffaaGreatT25
set_option maxHeartbeats 8000000
set_option linter.unusedVariables false
set_option linter.unusedSimpArgs false
namespace Go.Proofs.YtgoaelchibpffaaGreat
open Go.RowKit La
open List (length_append getElem?_map getD_eq_getElem?_getD length_map length_take length_set)
variable {P Q b:List (List Int)} {l tot x:List Int} {tv:List Value} {B g h i k n sc v:Nat} {SA:Option Addr} {w w0:World}
def Jf(c:SeaC)(B:Nat)(a b P Q:List (List Int))(tot:List Int)(tv:List Value)(SA:Option Addr)(st:List Nat)(i:Nat)(x:List Int)(w:World)(e:Ending)(w':World):Prop:=
 e= .returned (.bool (Zz c.cd a b P Q (zu P st) x))/\∃SA' sc' rows',SeaM c B w' a P tot tv SA' sc' (if Zz c.cd a b P Q (zu P st) x then st++[i] else st) rows'/\RowsOK c.cd c.n a P (if Zz c.cd a b P Q (zu P st) x then st++[i] else st) rows'/\OnlyS (SeaS c SA) w w'/\∀y,SA'=some y->(∃x,SA=some x/\x.block=y.block)∨w.heap.size<=y.block
theorem zeP:(Tryz.prog.info? 3).map (fun i=>(i.zero,i.size,i.bytes))=some (some (.int .i64 0),1,8):=ai
theorem zi4{c:SeaC}{d6:Nat}{wz W w6:World}{a:List (List Int)}{A6:Option Addr}{st:List Nat}{zc:List (List Int)}(hM:SeaM c B wz a P tot tv SA sc st zc)(hO:OnlyS (SeaS c SA) w wz)(hW:Ext wz W)(zsq:Own w6 B 3 1 A6 (k+1) d6 ((st.map fun i=>Value.int .i64 (i:Nat))++[.int .i64 (i:Nat)]))(hg:Grow B 3 W w6)(hgr:Grew SA A6 W w6)(hst:st.length=k)(hi:i<c.N):
  SeaM c B (w6.setCell ⟨c.sb,5,none⟩ (.slice A6 (k+1) d6)) a P tot tv A6 d6 (st++[i]) zc/\OnlyS (SeaS c SA) w (w6.setCell ⟨c.sb,5,none⟩ (.slice A6 (k+1) d6))/\∀y,A6=some y->(∃x,SA=some x/\x.block=y.block)∨w.heap.size<=y.block:=by
 have hl:(st++[i]).length=k+1:=by rw[length_append,hst];rfl
 refine⟨?_,?_,fun y hy=>?_⟩
 ·have:=(hM.ext hW).stack (w':=w6) (SA':=A6) (sc':=d6) (st':=st++[i]) (Oth.of_grow hg) (by rw[hl,List.map_append];exact zsq) (fun t ht=>by
   rcases List.mem_append.1 ht with h|h
   ·exact hM.stl t h
   ·rw[List.mem_singleton.1 h];exact hi)
  rw[hl]at this;exact this
 ·have h1:OnlyS (SeaS c SA) W w6:=⟨hg.below.mono (Nat.zero_le _),fun b hb hs=>hgr.block b hb fun x hx e=>hs (.inr (.inr ⟨x,hx,e⟩))⟩;exact((hO.trans (OnlyS.of_ext hW)).trans h1).trans (OnlyS.set (p:=⟨c.sb,5,none⟩) (.inl rfl) _)
 ·rcases hgr.own y hy with h|h
  ·exact .inl h
  ·have:=hO.size;have:=hW.size;exact .inr aa
theorem zi5{j:Nat}(h:j<n)(hn:n<=1000):(j:Int)+1<(n:Int)+1/\(j:Int)<(n:Int)+1/\IntKind.i64.wrap ((j:Int)+1)=(j:Int)+1/\wrap64 ((j:Int)+1)=(j:Int)+1/\(0:Int)<=(j:Int)+1/\((j:Int)+1).toNat=j+1:=by
 have e:IntKind.i64.wrap ((j:Int)+1)=(j:Int)+1:=Iw;exact⟨aa,aa,e,by rw[JF];exact e,aa,aa⟩
set_option maxRecDepth 20000 in
theorem zqk{c:SeaC}{a:List (List Int)}{st:List Nat}{zc:List (List Int)}(hM:SeaM c B w a P tot tv SA sc st zc)(zsP:tot=(List.range (c.n+1)).map (ZB c.cd b Q))(htv:tv=J5 c.cd b Q c.n)(hR:RowsOK c.cd c.n a P st zc)(hb:MatA w0 c.bA b)(hbn:b.length=c.n)(hba:AllLen b c.n)(hB:w0.heap.size<=B)
  (hi:P[i]? =some x) (hk:st.length<c.n) (hn:c.n<=1000) (hN:c.N=2*h) (hN8:c.N<=100000) (hml:a.length=c.n) (zsr:∀y∈P,y.length=c.n) (zsw:P.reverse.map (fun y=>y.map fun c=>-c)=P) (hip:∀x∈P,∀y∈P,zE a x y=zx (zY a x) y) [hx:Ext w0 w]:
  Cq 153 #[.pointer (some ⟨c.sb,0,none⟩),.int .i64 i] w (Jf c B a b P Q tot tv SA st i x w):=by
 obtain⟨sb,n,N,bA,bc,PA,pc,DA,dc,NA,nc,CV,cb,hs,TA,tc,ob,cd⟩:=c;dsimp only at hb hbn hba hk hn hN hN8 hml zsr hR zsP htv;obtain⟨k,hkk⟩:=Yz st.length;have hxm:x∈P:=Zm hi;have hiN:i<N:=by have h1:=(Zg.1 hi).1;have h2:P.length=N:=hM.plen;omega
 have hcl:(zu P st).length=k:=by rw[<-hkk];simp[zu]
 have hcm:∀j y,(zu P st)[j]? =some y->y∈P:=fun j y hj=>by
  unfold zu at hj;rw[getElem?_map]at hj;obtain⟨t,ht,rfl⟩:=Option.map_eq_some_iff.1 hj;have htN:t<P.length:=by have h1:t<N:=hM.stl t (Zm ht);have h2:P.length=N:=hM.plen;omega
  rw[getD_eq_getElem?_getD,Ze htN];exact List.getElem_mem _
 have s0:w.cell? ⟨sb,0,none⟩=some (.slice bA n bc):=hM.cell 0;have s1:w.cell? ⟨sb,1,none⟩=some (.slice PA N pc):=hM.cell 1;have s2:w.cell? ⟨sb,2,none⟩=some (.slice DA N dc):=hM.cell 2;have s3:w.cell? ⟨sb,3,none⟩=some (.slice NA N nc):=hM.cell 3;have s5:w.cell? ⟨sb,5,none⟩=some (.slice SA k sc):=by rw[<-hkk];exact hM.cell 5
 have s6:w.cell? ⟨sb,6,none⟩=some (.slice (some ⟨cb,0,none⟩) (n+1) (n+1)):=hM.cell 6;have s7:w.cell? ⟨sb,7,none⟩=some (.slice TA n tc):=hM.cell 7;have s8:w.cell? ⟨sb,8,none⟩=some (.slice (some ⟨ob,0,none⟩) (n+1) (n+1)):=hM.cell 8;have s9:w.cell? ⟨sb,9,none⟩=some (.bool cd):=hM.cell 9;have hsl:sb<w.heap.size:=zi hM.blk;have oS:Old sb w:=⟨hsl⟩;have HNO:Ints w NA 2 .i64 (P.map (zh a)):=hM.norms;have HTR:Arr w TA 184 (J5 cd b Q n):=by rw[<-htv];exact hM.trs.arr
 have HPT:Mat64 w PA P:=hM.pts;have HDU:Mat64 w DA (P.map (zC a)):=hM.duals;have HOW:Own w B 3 1 SA k sc (st.map fun i=>Value.int .i64 (i:Nat)):=by rw[<-hkk];exact hM.own
 -- the norm
 obtain⟨nb,no,v,rfl,hv,f1,f2⟩:=HNO.at_ (i:=i) (by rw[length_map];have h2:P.length=N:=hM.plen;omega);rw[getElem?_map,hi]at hv;obtain rfl:zh a x=v:=by simpa using hv
 have oN:Old nb w:=⟨f2⟩;-- the color
 obtain⟨gk,hgk,g1,g2,g3,g4,-⟩:=hM.row (j:=k) (by dsimp only;omega);have g1:w.cell? ⟨cb,k,none⟩=some (.slice (some ⟨gk,0,none⟩) N N):=g1;have hRk:zc[k]? =some (P.map (jd cd a P (zu P st))):=by
  have:=hR k (.inl aa);rw[<-hkk,List.take_length]at this;rw[<-hkk];exact this
 have HCK:Row w gk 155 .u64 (P.map (jd cd a P (zu P st))):=hM.rws k gk _ hgk hRk;obtain⟨cx,hcx,c1⟩:=HCK.cell (i:=i) (by rw[length_map];have h2:P.length=N:=hM.plen;omega);rw[getElem?_map,hi]at hcx;obtain rfl:jd cd a P (zu P st) x=cx:=by simpa using hcx
 have oG:Old gk w:=⟨g2⟩;have oC:Old cb w:=⟨g3⟩;-- the trait
 obtain⟨t1,t2⟩:=zi1 b (Z5 cd b Q) (k:=k) (n:=n) aa;obtain⟨tb,tp,rfl,t3,t4⟩:=HTR.at_ t1;obtain⟨tb',tp',te,t5,-⟩:=HTR.at_ t2;obtain⟨rfl,rfl⟩:tb=tb'/\tp=tp':=by injection te with te;injection te with e1 e2;exact⟨e1,e2⟩
 rw[<-Nat.add_assoc]at t5;have oT:Old tb w:=⟨t4⟩;have HSP:=Zh (zqi cd a b P Q (zu P st) x hcl);have HM:=Zh hM;have HRR:=Zh hR;have HX:=Zh (And.intro hi hxm);have HCL:=Zh hcl;have HCM:=Zh hcm;have zrl:=Zh zsr;have HSY:=Zh zsw;have HIP:=Zh hip;have HB:=Zh hb;have HBA:=Zh hba;have HBN:=Zh hbn;have HML:=Zh hml;have HGK:=Zh hgk;have HCK':=Zh HCK;have HPT':=Zh HPT;have HDU':=Zh HDU;have HOW':=Zh HOW;have HKK:=Zh hkk
 have HR1:=Zh hRk;have HN:=Zh hN;have zrQ:=Zh zsP;have HTV:=Zh htv;have hiN2:(i:Int)<(N:Int):=aa
 have zt7:(k:Int)<(n:Int):=aa
 have zxB:(k:Int)<(n:Int)+1:=aa
 clear hv HNO HTR HPT HDU HOW hM hR hi hxm hcl hcm zsr zsw hip hb hba hbn hml hgk HCK hRk t1 t2 te hcx hN zsP htv;generalize zh a x=v at*
 generalize jd cd a P (zu P st) x=cx at*
 generalize ent b k k=tn at*
 generalize Z5 cd b Q k=tk at*
 by_cases h12:v=tn/\cx=tk
 ·obtain⟨rfl,rfl⟩:=h12;rw[decide_eq_true (p:=v=v/\cx=cx) ⟨rfl,rfl⟩,Bool.true_and]at HSP;go_enter Tryz.func153,Tryz.ntmps153;go_wp2_with fail
  go_quiet (fail)
  have hxq:Ext w (w.drewN nq):=Zi;generalize w.drewN nq=wq at*
  have s5q:wq.cell? ⟨sb,5,none⟩=some (.slice SA k sc):=(zk w).trans s5;have oSq:Old sb wq:=⟨Nat.lt_of_lt_of_le hsl hxq.size⟩;go_wp2_with fail
  clear s3 s6 s7 c1 f1 f2 g1 t3 t5 oN oG oC oT s5q;go_loopw [6,7,45] (fun _ _ j wr=>∃j0:Nat,j0<=k/\j= .int .i64 j0/\Hid (∀t,t<j0->wI (zE a ((zu P st).getD t []) x)=ent b t k)/\Ext w wr) (fun _ _ j _=>k-(intOf j).toNat)
  case atStart=>exact⟨0,aa,rfl,Zh (fun t ht=>absurd ht aa),hxq⟩
  case round=>
   obtain⟨j0,hj0,rfl,HFT,hxr⟩:=hrel;have ztc:Ext w0 wr:=hx.trans hxr;have oSr:Old sb wr:=⟨Nat.lt_of_lt_of_le hsl hxr.size⟩;by_cases hlt:j0<k
   ·obtain⟨tc0,zs6⟩:∃t,st[j0]? =some t:=⟨_,Ze (by rw[HKK.out];exact hlt)⟩;have htN:tc0<N:=HM.out.stl tc0 (Zm zs6);obtain⟨y,hy⟩:∃y,P[tc0]? =some y:=⟨_,Ze (by have h2:P.length=N:=HM.out.plen;omega)⟩;have hyc:(zu P st).getD j0 []=y:=by
     unfold zu;rw[getD_eq_getElem?_getD,getElem?_map,zs6];simp[getD_eq_getElem?_getD,hy]
    have hym:=Zm hy;obtain⟨sA,sO,rfl,u1,u2⟩:=(HOW'.out.arr.ext hxr).at_ (i:=j0) (u:= .int .i64 (tc0:Nat)) (by rw[getElem?_map,zs6];rfl);obtain⟨db,dof,D,c2,rfl,q1,hD,-,-,q5⟩:=(HDU'.out.ext hxr).at_ (i:=tc0) (r:=zC a y) (by rw[getElem?_map,hy];rfl);obtain⟨pb,po,X,c3,rfl,p1,hX,-,-,p5⟩:=(HPT'.out.ext hxr).at_ HX.out.1;obtain⟨rb,hrb⟩:∃r,b[j0]? =some r:=⟨_,Ze (by rw[HBN.out];omega)⟩;have hrl:rb.length=n:=HBA.out rb (Zm hrb)
    obtain⟨bb,bo,R1,c4,rfl,b1,hR1,-,-,b5⟩:=(HB.out.ext ztc).at_ hrb;obtain⟨b2,o2,en,rfl,he,e1,e2⟩:=hR1.at_ (i:=k) aa;have hen:ent b j0 k=en:=by
     unfold ent;simp[getD_eq_getElem?_getD,hrb,he]
    have hlA:(zC a y).length=n:=by simp[zC,HML.out]
    rw[hlA]at q1;rw[zrl.out x HX.out.2]at p1;rw[hrl]at b1;have hdw:z6 (zC a y) x=wI (zE a y x):=by rw[zbu];unfold z6;rw[HIP.out y hym x HX.out.2];rfl
    have HD:=Zh (fun W(e:Ext wr W)=>J4 (w0:=wr) (w:=W) (c:=c2) (d:=c3) ⟨_,hD⟩ ⟨_,hX⟩ hlA (zrl.out x HX.out.2) Zr aa);rw[hdw]at HD;have HV:Hid (wI (zE a ((zu P st).getD j0 []) x)=wI (zE a y x)):=Zh (by rw[hyc]);have HE:=Zh hen;generalize wI (zE a y x)=ip at*
    have HDQ:=Zh (fun q=>(HD.out (wr.drewN q) Zi).mono (fun e w' h=>(⟨h.1,h.2.symm⟩:e= .returned (.int .i64 ip)/\w'=wr.drewN q)));have r0:wr.cell? ⟨sb,0,none⟩=some (.slice (some ⟨bb,bo,none⟩) n bc):=(zk w).trans s0;have r1:wr.cell? ⟨sb,1,none⟩=some (.slice (some ⟨pb,po,none⟩) N pc):=(zk w).trans s1;have r2:wr.cell? ⟨sb,2,none⟩=some (.slice (some ⟨db,dof,none⟩) N dc):=(zk w).trans s2;have oA:Old sA wr:=⟨u2⟩
    have oD:Old db wr:=⟨q5⟩;have oP:Old pb wr:=⟨p5⟩;have oB:Old bb wr:=⟨b5⟩;have oB2:Old b2 wr:=⟨e2⟩;have htN2:(tc0:Int)<(N:Int):=aa
    have zyF:(j0:Int)<(n:Int):=aa
    have zxz:(j0:Int)<(k:Int):=aa
    clear hD hX hR1 hdw hyc hen zs6 hy hym hrb he hlA HD;by_cases heq:ip=en
    ·subst heq;go_wp2_with fail
     go_quiet ((go_at_call 91;exact Calls.quiet_of_same (HDQ.out _)))
     go_wp2_with fail
     exact⟨⟨j0+1,aa,by go_num,Zh (fun t ht=>by
      by_cases e:t=j0
      ·subst e;rw[HV.out,HE.out]
      ·exact HFT.out t aa),hxr.trans Zi⟩,by simp[intOf];omega⟩
    ·have hal:((List.range k).all fun j=>decide (wI (zE a ((zu P st).getD j []) x)=ent b j k))=false:=zqj hlt (decide_eq_false (by rw[HV.out,HE.out];exact heq));rw[hal,Bool.false_and]at HSP;go_wp2_with fail
     go_quiet ((go_at_call 91;exact Calls.quiet_of_same (HDQ.out _)))
     go_wp2_with fail
     go_ret;have e:Ext w (wr.drewN nq):=hxr.trans Zi;unfold Jf;dsimp only;rw[HSP.out];exact⟨rfl,_,sc,zc,by rw[if_neg ac];exact HM.out.ext e,by rw[if_neg ac];exact HRR.out,OnlyS.of_ext e,fun y hy=> .inl ⟨y,hy,rfl⟩⟩
   ·obtain rfl:j0=k:=aa
    have hal:((List.range j0).all fun j=>decide (wI (zE a ((zu P st).getD j []) x)=ent b j j0))=true:=by
     rw[List.all_eq_true];intro t ht;exact decide_eq_true (HFT.out t (by simpa using ht))
    rw[hal,Bool.true_and]at HSP;have r5:wr.cell? ⟨sb,5,none⟩=some (.slice SA j0 sc):=(zk w).trans s5;have r8:wr.cell? ⟨sb,8,none⟩=some (.slice (some ⟨ob,0,none⟩) (n+1) (n+1)):=(zk w).trans s8;have r9:wr.cell? ⟨sb,9,none⟩=some (.bool cd):=(zk w).trans s9;have r6:wr.cell? ⟨sb,6,none⟩=some (.slice (some ⟨cb,0,none⟩) (n+1) (n+1)):=(HM.out.ext hxr).cell 6;have zss:(st++[i]).length=j0+1:=by rw[length_append,HKK.out];rfl
    have ztx:cd=false∨(cd=true/\Z4 a P (zu P st++[x])=ZB cd b Q (j0+1))∨(cd=true/\Z4 a P (zu P st++[x])≠ZB cd b Q (j0+1)):=by
     by_cases h:Z4 a P (zu P st++[x])=ZB cd b Q (j0+1)<;>cases cd<;>simp[h]
    have HBn:Hid (B<=sb):=Zh HM.out.bsb;rcases ztx with rfl|ztx
    ·go_wp2_with fail
     go_quiet (fail)
     have hxz:Ext w (wr.drewN nq):=hxr.trans Zi;have HMz:Hid (SeaM ⟨sb,n,N,bA,bc,PA,pc,DA,dc,some ⟨nb,no,none⟩,nc,CV,cb,hs,some ⟨tb,tp,none⟩,tc,ob,false⟩ B (wr.drewN nq) a P tot tv SA sc st zc):=Zh (HM.out.ext hxz);have HRz:Hid (RowsOK false n a P (st++[i]) zc):=Zh (by
      have:=HRR.out.push HX.out.1 (by have:=HKK.out;omega) HM.out.rl;rwa [if_neg ac]at this)
     have HOz:Hid (OnlyS (SeaS ⟨sb,n,N,bA,bc,PA,pc,DA,dc,some ⟨nb,no,none⟩,nc,CV,cb,hs,some ⟨tb,tp,none⟩,tc,ob,false⟩ SA) w (wr.drewN nq)):=Zh (OnlyS.of_ext hxz);have HOK:Hid (Zz false a b P Q (zu P st) x=true):=Zh HSP.out;have r5':(wr.drewN nq).cell? ⟨sb,5,none⟩=some (.slice SA j0 sc):=r5;have hsz:w.heap.size<=(wr.drewN nq).heap.size:=hxz.size;clear hxz r5 r6 r8 r9 hxr ztc oSr;generalize wr.drewN nq=wz at*
     have zrJ:Hid (Own wz B 3 1 SA j0 sc (st.map fun i=>Value.int .i64 (i:Nat))):=Zh (by have h:=HMz.out.own;rw[HKK.out]at h;exact h);have hbz:=HMz.out.blk;have oSz:Old sb wz:=⟨zi hbz⟩;have hBz:B<=wz.heap.size:=by have:=HBn.out;have:=oSz.lt;omega
     clear hbz;go_wp2_with (at_builtin;go_loud (refine ziY rfl (.tmp 118) (.tmp 120) 85 rfl B 3 (.int .i64 0) 1 8 Tryz.underlying85 zeP rfl ac ac SA j0 sc _ rfl (zrJ.out.ext Zi) ⟨wz.heap.size,0,none⟩ 1 1 [.int .i64 (i:Nat)] rfl (Arr.new wz 3 #[.int .i64 (i:Nat)]) rfl (by simp[Value.oneCell']) aa (by simp;omega) ?_);intro A6 d6 w6 zsx hg6 ztJ;have hb6:=hg6.heap (zg (Zi:Ext wz (wz.alloc (.cells #[.int .i64 (i:Nat)] 3))) HMz.out.blk) ac;have z1:w6.frozen? ⟨sb,5,none⟩=false:=(by simp[World.frozen?,hb6]);have z2:w6.cell? ⟨sb,5,none⟩=some (.slice SA j0 sc):=(by rw[cell_of_row w6 sb 5 _ _ _ hb6,<-HKK.out];rfl);have z3:=zi hb6)
     go_ret;have zsQ:=zi4 HMz.out HOz.out (Zi:Ext wz (wz.alloc (.cells #[.int .i64 (i:Nat)] 3))) zsx hg6 ztJ HKK.out hiN;unfold Jf;dsimp only;rw[HOK.out];exact⟨rfl,A6,d6,_,by rw[if_pos rfl];exact zsQ.1,by rw[if_pos rfl];exact HRz.out,zsQ.2.1,zsQ.2.2⟩
    ·have HIX:=Zh (zi5 ((aa:j0<n)) hn);obtain⟨rfl,hcc⟩:cd=true/\(Z4 a P (zu P st++[x])=ZB cd b Q (j0+1)∨Z4 a P (zu P st++[x])≠ZB cd b Q (j0+1)):=by
      rcases ztx with ⟨h1,h2⟩|⟨h1,h2⟩
      ·exact⟨h1,.inl h2⟩
      ·exact⟨h1,.inr h2⟩
     have hMr:=HM.out.ext hxr;obtain⟨gk',zut,k1,k2,k3,k4,k5⟩:=hMr.row (j:=j0) (by dsimp only;omega);obtain⟨gn,hg1,l1,l2,-,l4,l5⟩:=hMr.row (j:=j0+1) (by dsimp only;omega);have e0:gk'=gk:=by
      have:=HGK.out;dsimp only at zut;rw[zut]at this;injection this
     subst e0;have hne:gk'≠gn:=fun e=>by
      have:=hMr.dist j0 (j0+1) gk' zut (by rw[e];exact hg1);omega
     dsimp only at k1 k3 l1 l4 l5;obtain⟨tt,htt,ht1⟩:=hMr.tots.cell (i:=j0+1) (by have:=hMr.tl;dsimp only at this;omega);have HTT:Hid (tt=ZB true b Q (j0+1)):=Zh (by
      rw[zrQ.out,getElem?_map,List.getElem?_range aa]at htt;simpa using htt.symm)
     obtain⟨r1',zta⟩:∃r,zc[j0+1]? =some r:=⟨_,Ze (by have:=hMr.rl;dsimp only at this;omega)⟩;have zsH:jd true a P (zu P st)=ZR a P (zu P st):=by funext y;unfold jd;rw[if_pos rfl]
     have zro:Hid (wU (zQ P (qQ a (ZR a P (zu P st)) x))=Z4 a P (zu P st++[x])):=Zh (by
      unfold Z4;congr 2
      funext y
      rw[zbz])
     have zrv:=Zh (fun W(e:Ext wr W)=>ziK (cc:=N) (nc:=N) (w:=W) ((hMr.ext e).sys) l4 HN.out hN8 (c:=ZR a P (zu P st)) (by rw[<-zsH];exact HCK'.out.ext (hxr.trans e)) hne ((hMr.rws (j0+1) gn r1' hg1 zta).ext e) (hMr.all r1' (Zm zta)) (fun y _=>ziZ _ _ _ _) HX.out.1 HML.out zrl.out hn HSY.out HIP.out);have zv2:cb≠gn:=Je hMr.heads (hMr.rws (j0+1) gn r1' hg1 zta) ac;have HS1:Hid (∀W,Ext wr W->W.cell? ⟨sb,6,none⟩=some (.slice (some ⟨cb,0,none⟩) (n+1) (n+1))/\W.cell? ⟨cb,j0,none⟩=some (.slice (some ⟨gk',0,none⟩) N N)/\W.cell? ⟨cb,j0+1,none⟩=some (.slice (some ⟨gn,0,none⟩) N N)/\W.cell? ⟨sb,8,none⟩=some (.slice (some ⟨ob,0,none⟩) (n+1) (n+1))/\W.cell? ⟨ob,j0+1,none⟩=some (.int .u64 tt)/\W.cell? ⟨sb,9,none⟩=some (.bool true)):=Zh (fun W e=>by
      have oCb:Old cb wr:=⟨k3⟩;have oOb:Old ob wr:=⟨hMr.tots.lt⟩;exact⟨(zk wr).trans r6,(zk wr).trans k1,(zk wr).trans l1,(zk wr).trans r8,(zk wr).trans ht1,(zk wr).trans r9⟩)
     have HS2:Hid (∀W W2,Ext wr W->Only gn W W2->W2.cell? ⟨sb,6,none⟩=some (.slice (some ⟨cb,0,none⟩) (n+1) (n+1))/\W2.cell? ⟨cb,j0,none⟩=some (.slice (some ⟨gk',0,none⟩) N N)/\W2.cell? ⟨cb,j0+1,none⟩=some (.slice (some ⟨gn,0,none⟩) N N)/\W2.cell? ⟨sb,8,none⟩=some (.slice (some ⟨ob,0,none⟩) (n+1) (n+1))/\W2.cell? ⟨ob,j0+1,none⟩=some (.int .u64 tt)/\W2.cell? ⟨sb,9,none⟩=some (.bool true)):=Zh (fun W W2 e ho=>by
      obtain⟨a1,a2,a3,a4,a5,a6⟩:=HS1.out W e;have z1:=Nat.lt_of_lt_of_le oSr.lt e.size;have z2:=Nat.lt_of_lt_of_le k3 e.size;have z3:=Nat.lt_of_lt_of_le hMr.tots.lt e.size;exact⟨(ho.cell (p:=⟨sb,6,none⟩) z1 l4).trans a1,(ho.cell (p:=⟨cb,j0,none⟩) z2 zv2).trans a2,(ho.cell (p:=⟨cb,j0+1,none⟩) z2 zv2).trans a3,(ho.cell (p:=⟨sb,8,none⟩) z1 l4).trans a4,(ho.cell (p:=⟨ob,j0+1,none⟩) z3 l5).trans a5,(ho.cell (p:=⟨sb,9,none⟩) z1 l4).trans a6⟩)
     have oCb:Old cb wr:=⟨k3⟩;have oOb:Old ob wr:=⟨hMr.tots.lt⟩;have oG1:Old gn wr:=⟨l2⟩;have oGk:Old gk' wr:=⟨k2⟩;have HG1:=Zh hg1;have HMr:=Zh hMr;have HCC:=Zh hcc;unfold zcO at zrv;generalize wU (zQ P (qQ a (ZR a P (zu P st)) x))=rv at*
     clear hMr zut hg1 htt zta zsH hcc;obtain⟨zu6,zu7,ztk,ztz,zu8,hjt⟩:=HIX.out;go_wp2_with fail
     try simp only[List.append_eq,List.cons_append,List.nil_append]
     go_region_held3 (fun w'=>w'.cell? ⟨sb,6,none⟩=some (.slice (some ⟨cb,0,none⟩) (n+1) (n+1))/\w'.cell? ⟨cb,j0,none⟩=some (.slice (some ⟨gk',0,none⟩) N N)/\w'.cell? ⟨cb,j0+1,none⟩=some (.slice (some ⟨gn,0,none⟩) N N)/\w'.cell? ⟨sb,8,none⟩=some (.slice (some ⟨ob,0,none⟩) (n+1) (n+1))/\w'.cell? ⟨ob,j0+1,none⟩=some (.int .u64 tt)/\w'.cell? ⟨sb,9,none⟩=some (.bool true))
      (first|exact HS1.out _ Zi|exact HS2.out _ _ Zi zuu)
      ((go_at_call 213;refine(zrv.out _ Zi).mono ?_;rintro e w5 ⟨rfl,zv3,zuu⟩))
     clear zu6 zu7 ztk ztz zu8 hjt;have hw5:OnlyS (SeaS ⟨sb,n,N,bA,bc,PA,pc,DA,dc,some ⟨nb,no,none⟩,nc,CV,cb,hs,some ⟨tb,tp,none⟩,tc,ob,true⟩ SA) w w5:=(OnlyS.of_ext (hxr.trans (Zi:Ext wr wr.drew))).trans (OnlyS.of_only zuu (.inr (.inl (Zm HG1.out))));have hM5:=(HMr.out.ext (Zi:Ext wr wr.drew)).color HG1.out zv3 (by rw[length_map];exact HMr.out.plen) zuu;have HMz:=Zh hM5;have HOz:=Zh hw5;clear hw5 hM5 zv3 zuu r5 r6 r8 r9 k1 l1 ht1
     rcases HCC.out with heq|zt8
     ·obtain rfl:rv=tt:=by rw[zro.out,HTT.out];exact heq
      have HOK:Hid (Zz true a b P Q (zu P st) x=true):=Zh (by rw[HSP.out,decide_eq_true heq];rfl);have HRz:Hid (RowsOK true n a P (st++[i]) (zc.set (j0+1) (P.map (qQ a (ZR a P (zu P st)) x)))):=Zh (by
       have:=HRR.out.push HX.out.1 (by have:=HKK.out;omega) HM.out.rl;rwa [if_pos rfl,HKK.out]at this)
      have r5':w5.cell? ⟨sb,5,none⟩=some (.slice SA j0 sc):=by rw[<-HKK.out];exact HMz.out.cell 5
      have hsz:w.heap.size<=w5.heap.size:=HOz.out.size;clear heq hxr ztc oSr;generalize w5=wz at*
      have zrJ:Hid (Own wz B 3 1 SA j0 sc (st.map fun i=>Value.int .i64 (i:Nat))):=Zh (by have h:=HMz.out.own;rw[HKK.out]at h;exact h);have hbz:=HMz.out.blk;have oSz:Old sb wz:=⟨zi hbz⟩;have hBz:B<=wz.heap.size:=by have:=HBn.out;have:=oSz.lt;omega
      clear hbz;go_wp2_with (at_builtin;go_loud (refine ziY rfl (.tmp 118) (.tmp 120) 85 rfl B 3 (.int .i64 0) 1 8 Tryz.underlying85 zeP rfl ac ac SA j0 sc _ rfl (zrJ.out.ext Zi) ⟨wz.heap.size,0,none⟩ 1 1 [.int .i64 (i:Nat)] rfl (Arr.new wz 3 #[.int .i64 (i:Nat)]) rfl (by simp[Value.oneCell']) aa (by simp;omega) ?_);intro A6 d6 w6 zsx hg6 ztJ;have hb6:=hg6.heap (zg (Zi:Ext wz (wz.alloc (.cells #[.int .i64 (i:Nat)] 3))) HMz.out.blk) ac;have z1:w6.frozen? ⟨sb,5,none⟩=false:=(by simp[World.frozen?,hb6]);have z2:w6.cell? ⟨sb,5,none⟩=some (.slice SA j0 sc):=(by rw[cell_of_row w6 sb 5 _ _ _ hb6,<-HKK.out];rfl);have z3:=zi hb6)
      go_ret;have zsQ:=zi4 HMz.out HOz.out (Zi:Ext wz (wz.alloc (.cells #[.int .i64 (i:Nat)] 3))) zsx hg6 ztJ HKK.out hiN;unfold Jf;dsimp only;rw[HOK.out];exact⟨rfl,A6,d6,_,by rw[if_pos rfl];exact zsQ.1,by rw[if_pos rfl];exact HRz.out,zsQ.2.1,zsQ.2.2⟩
     ·have zxC:¬rv=tt:=by rw[zro.out,HTT.out];exact zt8
      have HOK:Hid (Zz true a b P Q (zu P st) x=false):=Zh (by rw[HSP.out,decide_eq_false zt8];rfl);clear zt8;go_wp2_with fail
      go_ret;unfold Jf;dsimp only;rw[HOK.out];exact⟨rfl,SA,sc,_,by rw[if_neg ac];exact HMz.out,by rw[if_neg ac,<-HKK.out];exact HRR.out.keep rfl,HOz.out,fun y hy=> .inl ⟨y,hy,rfl⟩⟩
 ·rw[decide_eq_false h12,Bool.false_and,Bool.false_and]at HSP;have zst:∀W,Ext w W->Jf ⟨sb,n,N,bA,bc,PA,pc,DA,dc,some ⟨nb,no,none⟩,nc,CV,cb,hs,some ⟨tb,tp,none⟩,tc,ob,cd⟩ B a b P Q tot tv SA st i x w (.returned (.bool false)) W:=fun W e=>by
   unfold Jf;dsimp only;rw[HSP.out];exact⟨rfl,SA,sc,zc,by rw[if_neg ac];exact HM.out.ext e,by rw[if_neg ac];exact HRR.out,OnlyS.of_ext e,fun y hy=> .inl ⟨y,hy,rfl⟩⟩
  have HF:=Zh zst;clear zst;have h3:v≠tn∨(v=tn/\cx≠tk):=by
   by_cases h:v=tn
   ·exact .inr ⟨h,fun q=>h12 ⟨h,q⟩⟩
   ·exact .inl h
  clear h12;rcases h3 with h3|⟨rfl,h3⟩
  ·go_enter Tryz.func153,Tryz.ntmps153;go_wp2_with fail
   go_quiet (fail)
   go_wp2_with fail
   go_ret;exact HF.out _ Zi
  ·go_enter Tryz.func153,Tryz.ntmps153;go_wp2_with fail
   go_quiet (fail)
   go_wp2_with fail
   go_ret;exact HF.out _ Zi
theorem Own.cut{ze c:Nat}{e:TypeId}{A:Option Addr}{xs:List Value}(h:Own w ze e 1 A n c xs)(hk:k<=n):Own w ze e 1 A k c (xs.take k):=by
 have hl:=h.len;refine⟨by rw[length_take];omega,?_⟩;rcases h.2 with ⟨hv,h0⟩|⟨g,cap,cur,hv,h1,h2,h3,h4,h5,h6⟩
 ·obtain rfl:k=0:=aa
  injection hv with e1 e2 e3
  subst e1;subst e3;exact .inl ⟨rfl,rfl⟩
 ·injection hv with e1 e2 e3
  subst e1;subst e3;exact .inr ⟨g,c,cur,rfl,h1,h2,aa,h4,h5,by rw[<-h6,List.take_take,Nat.mul_one,Nat.mul_one,Nat.min_eq_left hk]⟩
def zeQ(c:SeaC)(B:Nat)(a b P Q:List (List Int))(tot:List Int)(tv:List Value)(st:List Nat)(w0:World)(e:Ending)(w':World):Prop:=
 e= .returned (.bool (Zt (Zz c.cd a b P Q) P (c.n-st.length) (zu P st)).isSome)/\Ext w0 w'/\∀t,Zt (Zz c.cd a b P Q) P (c.n-st.length) (zu P st)=some t->∃SA' sc' st' rows',SeaM c B w' a P tot tv SA' sc' st' rows'/\zu P st'=t
structure CompI(c:SeaC)(B g first:Nat)(w0 w:World)(a b P Q:List (List Int))(tot:List Int)(tv:List Value)(st nx:List Nat)(R:Option (List (List Int))):Prop where
 ex:∃SA sc zc,SeaM c B w a P tot tv SA sc st zc/\RowsOK c.cd c.n a P st zc/\∀y,SA=some y->y.block≠g
 fst:first<=st.length
 le:st.length<=c.n
 row:Row w g 3 .i64 (nx.map Int.ofNat)
 len:nx.length=c.n+1
 nle:∀j,nx.getD j 0<=c.N
 ans:Qh (Zz c.cd a b P Q) P c.n first (zu P st) nx=R
 ext:Ext w0 w
theorem jW(P:List (List Int))(st:List Nat):(zu P st).length=st.length:=by simp[zu]
theorem zi6{nx:List Nat}(h:Row w g 3 .i64 (nx.map Int.ofNat))(hl:nx.length=n+1)(hk:k<=n):w.cell? ⟨g,k,none⟩=some (.int .i64 (nx.getD k 0:Nat)):=by
 obtain⟨x,hx,h1⟩:=h.cell (i:=k) (by rw[length_map];omega);rw[getElem?_map,Ze aa]at hx;rw[h1,getD_eq_getElem?_getD,Ze aa];simp at hx;simp[hx]
theorem zi7{nx:List Nat}(h:Row w g 3 .i64 (nx.map Int.ofNat)):Row (w.setCell ⟨g,k,none⟩ (.int .i64 (v:Nat))) g 3 .i64 ((nx.set k v).map Int.ofNat):=by
 rw[List.map_set];exact h.set k _
theorem zeR{N:Nat}{nx:List Nat}(h:∀j,nx.getD j 0<=N)(hv:v<=N)(j:Nat):(nx.set k v).getD j 0<=N:=by
 by_cases hk:k<nx.length
 ·rw[Jc hk];split
  ·exact hv
  ·exact h j
 ·rw[List.set_eq_of_length_le aa];exact h j
theorem zql{nx:List Nat}(hk:k<nx.length):nx.set k (nx.getD k 0)=nx:=by
 rw[getD_eq_getElem?_getD,Ze hk];simp
section
variable {c:SeaC} {B g first:Nat} {w0 w w' w2:World} {a b P Q:List (List Int)} {tot:List Int} {tv:List Value} {st nx:List Nat} {R:Option (List (List Int))} {SA:Option Addr} {sc:Nat} {zc:List (List Int)}
theorem SeaM.nxt(h:SeaM c B w a P tot tv SA sc st zc)(hr:Row w g 3 .i64 l)(hg:∀y,SA=some y->y.block≠g)(u:Value):SeaM c B (w.setCell ⟨g,k,none⟩ u) a P tot tv SA sc st zc:=by
 have ho:Oth 3 w (w.setCell ⟨g,k,none⟩ u):=Oth.set (p:=⟨g,k,none⟩) hr u;refine⟨ho _ _ _ _ ac h.blk,ho _ _ _ _ ac h.heads,fun j g r h1 h2=>ho _ _ _ _ ac (h.rws j g r h1 h2),h.hl,h.rl,h.all,h.dist,ho _ _ _ _ ac h.tots,h.tl,h.obn,h.trs.oth ho ac,h.pts.oth ho ac ac,h.duals.oth ho ac ac,h.norms.oth ho ac,h.plen,⟨h.own.1,?_⟩,h.bsb,h.bcb,h.bob,h.bhs,h.stl⟩
 rcases h.own.2 with hv|⟨g',cap,cur,hv,h1,h2,h3⟩
 ·exact .inl hv
 ·refine .inr ⟨g',cap,cur,hv,h1,(Below.heap_setCell w ⟨g,k,none⟩ u g' ?_).trans h2,h3⟩;injection hv with hA
  exact hg _ hA
theorem CompI.inc(h:CompI c B g first w0 w a b P Q tot tv st nx R)(hk:st.length=k)(hx:Ext w w'):∃SA sc zc,SeaM c B (w'.setCell ⟨g,k,none⟩ (.int .i64 ((i:Int)+1))) a P tot tv SA sc st zc/\RowsOK c.cd c.n a P st zc/\(∀y,SA=some y->y.block≠g)/\Row (w'.setCell ⟨g,k,none⟩ (.int .i64 ((i:Int)+1))) g 3 .i64 ((nx.set k (i+1)).map Int.ofNat)/\(w0.heap.size<=g->Ext w0 (w'.setCell ⟨g,k,none⟩ (.int .i64 ((i:Int)+1)))):=by
 obtain⟨SA,sc,zc,h1,h2,h3⟩:=h.ex;rw[(aa:((i:Int)+1)=((i+1:Nat):Int))];exact⟨SA,sc,zc,(h1.ext hx).nxt (h.row.ext hx) h3 _,h2,h3,zi7 (h.row.ext hx),fun hg=>(h.ext.trans hx).setCell (p:=⟨g,k,none⟩) hg _⟩
theorem zqm(hM:SeaM c B w a P tot tv SA sc st zc)(hr:Row w g 3 .i64 l)(hg:∀y,SA=some y->y.block≠g)(ho:OnlyS (SeaS c SA) w w'):Row w' g 3 .i64 l:=by
 refine ho.heap hr fun hs=>?_
 rcases hs with e|e|⟨y,hy,e⟩
 ·exact Je hr hM.blk ac e
 ·obtain⟨j,hj,e⟩:=List.getElem_of_mem e;have h1:=hM.rl;have h2:=hM.hl;exact Je hr (hM.rws j g _ (by rw[Ze hj,e]) (Ze aa)) ac rfl
 ·exact hg y hy e
theorem SeaS.le(hM:SeaM c B w a P tot tv SA sc st zc):∀b,SeaS c SA b->B<=b:=fun b hb=>by
 rcases hb with e|e|⟨y,hy,e⟩
 ·rw[e];exact hM.bsb
 ·exact hM.bhs b e
 ·rcases hM.own.2 with ⟨hv,_⟩|⟨g',cap,cur,hv,h1,_⟩
  ·injection hv with hA;rw[hA]at hy;cases hy
  ·injection hv with hA;rw[hA]at hy;injection hy with hy;rw[<-e,<-hy];exact h1
theorem CompI.step{e:Ending}(h:CompI c B g first w0 w2 a b P Q tot tv st nx R)(hk:st.length=k)(hkn:k<c.n)(hi:nx.getD k 0=i)(hx:P[i]? =some x)(hi2:i<c.N)
  (hM:SeaM c B w a P tot tv SA sc st zc) (hg:∀y,SA=some y->y.block≠g) (hr:Row w g 3 .i64 ((nx.set k (i+1)).map Int.ofNat)) (hx0:Ext w0 w) (hB:w0.heap.size<=B) (hp:Jf c B a b P Q tot tv SA st i x w e w'):
  e= .returned (.bool (Zz c.cd a b P Q (zu P st) x))/\(Zz c.cd a b P Q (zu P st) x=false->CompI c B g first w0 w' a b P Q tot tv st (nx.set k (i+1)) R)/\
  (Zz c.cd a b P Q (zu P st) x=true->Row w' g 3 .i64 ((nx.set k (i+1)).map Int.ofNat)/\(w0.heap.size<=g->CompI c B g first w0 (w'.setCell ⟨g,k+1,none⟩ (.int .i64 (0:Nat))) a b P Q tot tv (st++[i]) ((nx.set k (i+1)).set (k+1) 0) R)):=by
 obtain⟨he,SA',sc',rows',h1,h2,h3,h4⟩:=hp;have zsr:=zqm hM hr hg h3;have hx':Ext w0 w':=h3.ext hx0 fun b hb=>by have:=SeaS.le hM b hb;omega
 have hg':∀y,SA'=some y->y.block≠g:=fun y hy=>by
  rcases h4 y hy with ⟨z,hz,ez⟩|hz
  ·rw[<-ez];exact hg z hz
  ·have:=hr.lt;omega
 have hcl:(zu P st).length=k:=by rw[jW];exact hk
 refine⟨he,fun hf=>?_,fun ht=>⟨zsr,fun hgw=>?_⟩⟩
 ·rw[hf,if_neg ac]at h1 h2;refine⟨⟨SA',sc',rows',h1,h2,hg'⟩,h.fst,h.le,zsr,by rw[length_set];exact h.len,zeR h.nle aa,?_,hx'⟩;have:=zpN (Zz c.cd a b P Q) P (n:=c.n) (first:=first) (st:=zu P st) (nx:=nx) (i:=i) (x:=x) (by rw[hcl,<-hk];exact h.fst) aa (by rw[h.len];omega) (by rw[hcl];exact hi) hx hf;rw[hcl]at this;rw[<-this];exact h.ans
 ·rw[ht,if_pos rfl]at h1 h2;refine⟨⟨SA',sc',rows',h1.nxt zsr hg' _,h2,hg'⟩,by rw[length_append];have:=h.fst;omega,by rw[length_append,List.length_singleton];omega,zi7 zsr,by rw[length_set,length_set];exact h.len,zeR (zeR h.nle aa) aa,?_,hx'.setCell (p:=⟨g,k+1,none⟩) hgw _⟩;have:=zpM (Zz c.cd a b P Q) P (n:=c.n) (first:=first) (st:=zu P st) (nx:=nx) (i:=i) (x:=x) (by rw[hcl,<-hk];exact h.fst) aa (by rw[h.len];omega) (by rw[hcl];exact hi) hx ht
  rw[hcl]at this;rw[zi3,getD_eq_getElem?_getD,hx,Option.getD_some,<-this];exact h.ans
theorem CompI.pop(h:CompI c B g first w0 w a b P Q tot tv st nx R)(hk:st.length=k)(hkf:first<k)(hkn:k<c.n)(hN:P.length=c.N)(hi:nx.getD k 0=c.N)(hB:w0.heap.size<=B):∃SA sc,w.cell? ⟨c.sb,5,none⟩=some (.slice SA k sc)/\CompI c B g first w0 (w.setCell ⟨c.sb,5,none⟩ (.slice SA (k-1) sc)) a b P Q tot tv (st.take (k-1)) nx R:=by
 obtain⟨SA,sc,zc,h1,h2,h3⟩:=h.ex;have hl:(st.take (k-1)).length=k-1:=by rw[length_take];omega
 have hcl:(zu P st).length=k:=by rw[jW];exact hk
 have zsq:Own w B 3 1 SA (k-1) sc ((st.take (k-1)).map fun i=>Value.int .i64 (i:Nat)):=by
  have:=h1.own.cut (k:=k-1) aa;rwa [<-List.map_take]at this
 have hs:=h1.stack (w':=w) (SA':=SA) (sc':=sc) (st':=st.take (k-1)) (Oth.refl _ _) (by rw[hl];exact zsq) (fun i hi=>h1.stl i (List.mem_of_mem_take hi));rw[hl]at hs;refine⟨SA,sc,by rw[<-hk];exact h1.cell 5,⟨SA,sc,zc,hs,h2.pop aa,h3⟩,aa,aa,?_,h.len,h.nle,?_,h.ext.setCell (p:=⟨c.sb,5,none⟩) (by have:=h1.bsb;dsimp only;omega) _⟩
 ·exact h.row.far (p:=⟨c.sb,5,none⟩) (Je h.row h1.blk ac) _
 ·have:=zpO (Zz c.cd a b P Q) P (n:=c.n) (first:=first) (st:=zu P st) (nx:=nx) aa aa (by rw[hcl];omega);rw[hcl]at this;rw[zqh,<-this];exact h.ans
end
set_option maxRecDepth 20000 in
theorem zqn{c:SeaC}{a:List (List Int)}{st:List Nat}{zc:List (List Int)}(hM:SeaM c B w a P tot tv SA sc st zc)(zsP:tot=(List.range (c.n+1)).map (ZB c.cd b Q))(htv:tv=J5 c.cd b Q c.n)(hR:RowsOK c.cd c.n a P st zc)(hb:MatA w0 c.bA b)(hbn:b.length=c.n)(hba:AllLen b c.n)(hB:w0.heap.size<=B)
  (hk:st.length<=c.n) (hn:c.n<=1000) (hN:c.N=2*h) (hN8:c.N<=100000) (hml:a.length=c.n) (zsr:∀y∈P,y.length=c.n) (zsw:P.reverse.map (fun y=>y.map fun c=>-c)=P) (hip:∀x∈P,∀y∈P,zE a x y=zx (zY a x) y) [hx:Ext w0 w]:
  Cq 84 #[.pointer (some ⟨c.sb,0,none⟩)] w (zeQ c B a b P Q tot tv st w0):=by
 obtain⟨sb,n,N,bA,bc,PA,pc,DA,dc,NA,nc,CV,cb,hs,TA,tc,ob,cd⟩:=c;dsimp only at hb hbn hba hk hn hN hN8 hml zsr hR zsP htv;have zsb:Hid (∀(W:World)(SA:Option Addr)(sc:Nat)(st:List Nat)(zc:List (List Int))(i:Nat)(x:List Int),SeaM ⟨sb,n,N,bA,bc,PA,pc,DA,dc,NA,nc,CV,cb,hs,TA,tc,ob,cd⟩ B W a P tot tv SA sc st zc->RowsOK cd n a P st zc->P[i]? =some x->st.length<n->Ext w0 W->Cq 153 #[.pointer (some ⟨sb,0,none⟩),.int .i64 i] W (Jf ⟨sb,n,N,bA,bc,PA,pc,DA,dc,NA,nc,CV,cb,hs,TA,tc,ob,cd⟩ B a b P Q tot tv SA st i x W)):=
  Zh (fun W SA sc st zc i x h1 h2 h3 h4 h5=>zqk h1 zsP htv h2 hb hbn hba hB h3 h4 hn hN hN8 hml zsr zsw hip)
 obtain⟨R,hRR⟩:=Yz (Zt (Zz cd a b P Q) P (n-st.length) (zu P st));unfold zeQ;dsimp only;rw[hRR];obtain⟨first,hf⟩:=Yz st.length
 have hpl:P.length=N:=hM.plen;have hPN:∀i,i<N->∃x,P[i]? =some x:=fun i hi=>⟨_,Ze aa⟩
 have hmk:=qz (P:=Tryz.prog) (k:= .i64) Tryz.underlying85 zeP aa ((n:Int)+1) aa aa;have hI0:CompI ⟨sb,n,N,bA,bc,PA,pc,DA,dc,NA,nc,CV,cb,hs,TA,tc,ob,cd⟩ B w.heap.size first w0 (w.alloc (.cells (zO (n+1) .i64) 3)) a b P Q tot tv st (List.replicate (n+1) 0) R:=
  ⟨⟨SA,sc,zc,hM.ext Zi,hR,fun y hy=>by have:=hM.own.blockLt y hy;omega⟩,aa,hk,by
    have:=Row.made w (n+1) .i64 3;rw[List.map_replicate];exact this,af,fun j=>by simp[getD_eq_getElem?_getD,List.getElem?_replicate];split<;>simp,by
    have:=zpL (Zz cd a b P Q) P (n:=n) (st:=zu P st) (nx:=List.replicate (n+1) 0) (by rw[jW];exact hk) (by simp[getD_eq_getElem?_getD,List.getElem?_replicate];split<;>simp);rw[jW,hf]at this;rw[<-hRR,<-hf,<-hf] at*
    exact this,Zi⟩
 have s0:w.cell? ⟨sb,0,none⟩=some (.slice bA n bc):=hM.cell 0;have s5:w.cell? ⟨sb,5,none⟩=some (.slice SA first sc):=by rw[<-hf];exact hM.cell 5
 have oS:Old sb w:=⟨zi hM.blk⟩;have hzz:((n:Int)+1).toNat=n+1:=aa
 have HPN:=Zh hPN;have HNN:=Zh hN;have zrQ:=Zh zsP;have HTV:=Zh htv;have HPL:=Zh hpl;have HI0:=Zh hI0;have hBw:B<=w.heap.size:=by
  have h1:=zi hM.blk;have h2:B<=sb:=hM.bsb;dsimp only at h1;omega
 rw[hzz]at hmk;clear hM hR hRR hI0 hpl hPN hf hN zsP htv hb hbn hba hml zsr zsw hip hk;obtain⟨g,hg⟩:=Yz w.heap.size;rw[hg]at HI0 hBw;go_enter Tryz.func84,Tryz.ntmps84;go_wp2_with fail
 go_step3
 go_wp2_with fail
 go_step3
 go_wp2_with fail
 obtain⟨ms0,zxD⟩:∃q,q=qx N n first (List.replicate (n+1) 0) (st.length-first):=⟨_,rfl⟩
 go_loopg [2,5] ms0 (fun gk _ _ wr=>∃(st nx:List Nat),Hid (CompI ⟨sb,n,N,bA,bc,PA,pc,DA,dc,NA,nc,CV,cb,hs,TA,tc,ob,cd⟩ B g first w0 wr a b P Q tot tv st nx R)/\Hid (gk=qx N n first nx (st.length-first)))
 case atStart=>exact⟨st,_,HI0,Zh zxD⟩
 case round=>
  obtain⟨st,nx,HI,HG⟩:=hrel;obtain⟨SA,sc,zc,hM,hR,hgA⟩:=HI.out.ex;obtain⟨k,hkk⟩:=Yz st.length;have r0:wr.cell? ⟨sb,0,none⟩=some (.slice bA n bc):=hM.cell 0;have r1:wr.cell? ⟨sb,1,none⟩=some (.slice PA N pc):=hM.cell 1;have r5:wr.cell? ⟨sb,5,none⟩=some (.slice SA k sc):=by rw[<-hkk];exact hM.cell 5
  have oSr:Old sb wr:=⟨zi hM.blk⟩;have hkn:k<=n:=by have:=HI.out.le;dsimp only at this;omega
  have hfk:first<=k:=by have:=HI.out.fst;omega
  have HM:=Zh hM;have HKK:=Zh hkk;clear hM hR hgA s0 s5 oS;by_cases hke:k=n
  ·subst hke;have hRR:R=some (zu P st):=by
    have:=HI.out.ans;unfold Qh at this;rw[if_pos (by rw[jW];exact HKK.out)]at this;exact this.symm
   have HRR:=Zh hRR;have hkt:((k:Int)==(k:Int))=true:=af
   clear hRR;go_wp2_with fail
   rw[Exit.noGoto_ret];go_ret;rw[HRR.out];exact⟨rfl,HI.out.ext,fun t ht=>⟨SA,sc,st,zc,HM.out,by injection ht⟩⟩
  ·have hlt:k<n:=aa
   have zt7:¬(k:Int)=(n:Int):=aa
   have zxB:(k:Int)<(n:Int)+1:=aa
   have hkb:((k:Int)==(n:Int))=false:=by simp;omega
   obtain⟨q0,hq0⟩:=Xz (N-nx.getD k 0);have hnl:nx.length=n+1:=HI.out.len;have HI1:Hid (CompI ⟨sb,n,N,bA,bc,PA,pc,DA,dc,NA,nc,CV,cb,hs,TA,tc,ob,cd⟩ B g first w0 wr a b P Q tot tv st (nx.set k (nx.getD k 0)) R):=Zh (by rw[zql aa];exact HI.out);have hnk:nx.getD k 0<=N:=HI.out.nle k;have HNL:=Zh hnl;have HQ0:=Zh hq0;have HNK:=Zh hnk;have HKE:=Zh hke;clear hnl hnk hke;clear hq0;go_wp2_with fail
   clear r0 r1 r5 oSr;go_loopg [] q0 (fun gk wr=>∃i:Nat,Hid (CompI ⟨sb,n,N,bA,bc,PA,pc,DA,dc,NA,nc,CV,cb,hs,TA,tc,ob,cd⟩ B g first w0 wr a b P Q tot tv st (nx.set k i) R)/\Hid (nx.getD k 0<=i/\i<=N/\gk=N-i))
   case atStart=>exact⟨nx.getD k 0,HI1,Zh ⟨Zr,HNK.out,HQ0.out⟩⟩
   case round=>
    obtain⟨i,HJ,HB⟩:=hrel;obtain⟨SA2,sc2,rows2,hM2,hR2,hgA2⟩:=HJ.out.ex;have t1:wr.cell? ⟨sb,1,none⟩=some (.slice PA N pc):=hM2.cell 1;have t5:wr.cell? ⟨sb,5,none⟩=some (.slice SA2 k sc2):=by rw[<-HKK.out];exact hM2.cell 5
    have zu9:(nx.set k i).length=n+1:=by rw[length_set];exact HNL.out
    have hgi:(nx.set k i).getD k 0=i:=by rw[Jc (by have:=HNL.out;omega),if_pos rfl]
    have t2:wr.cell? ⟨g,k,none⟩=some (.int .i64 (i:Nat)):=by
     have:=zi6 (k:=k) HJ.out.row zu9 aa;rwa [hgi]at this
    have t3:wr.frozen? ⟨g,k,none⟩=false:=HJ.out.row.frozen k;have oG:Old g wr:=⟨HJ.out.row.lt⟩;have oS2:Old sb wr:=⟨zi hM2.blk⟩;have HM2:=Zh hM2;have zsp:=Zh zu9;have HGI:=Zh hgi;clear hM2 hR2 hgA2 zu9 hgi;by_cases hiN:i<N
    ·obtain⟨x,hx⟩:=HPN.out i hiN;have HXX:=Zh hx;have hiN2:(i:Int)<(N:Int):=aa
     have hng:w0.heap.size<=g:=by have:=hBw;omega
     clear hx;go_wp2_with fail
     go_quiet (fail)
     have hxq:Ext wr (wr.drewN nq):=Zi;generalize wr.drewN nq=wq at*
     have u2:wq.cell? ⟨g,k,none⟩=some (.int .i64 (i:Nat)):=(zk wr).trans t2;have u3:wq.frozen? ⟨g,k,none⟩=false:=(ZY wr).trans t3;have oGq:Old g wq:=⟨Nat.lt_of_lt_of_le oG.lt hxq.size⟩;obtain⟨SA3,sc3,rows3,h1,h2,h3,h4,h5⟩:=HJ.out.inc (i:=i) HKK.out hxq;have hss:(nx.set k i).set k (i+1)=nx.set k (i+1):=List.set_set ..;have HSS:=Zh hss;have h5:=h5 hng;have HPU:=Zh (zsb.out _ SA3 sc3 st rows3 i x h1 h2 HXX.out (by rw[HKK.out];exact hlt) h5)
     clear t1 t2 t3 t5 oS2 oG;have oS3:Old sb wq:=⟨by have:=zi h1.blk;rw[ZE]at this;exact this⟩;have zyG:(k:Int)+1<(n:Int)+1:=aa
     have zyH:((k:Int)+1).toNat=k+1:=aa
     cases hok:Zz cd a b P Q (zu P st) x with
     |false=>
      have HOK:=Zh hok;clear hok;go_wp2_with (go_at_call 153;refine(HPU.out).mono ?_;rintro e w8 hp8;obtain⟨he8,hf8,-⟩:=HJ.out.step HKK.out hlt HGI.out HXX.out hiN h1 h3 h4 h5 hB hp8;rw[HSS.out]at hf8;rw[HOK.out]at he8;have HF8:=Zh (hf8 HOK.out);clear hp8 hf8;subst he8)
      go_roundg (N-(i+1))
      case measure=>have:=HB.out;omega
      case rel=>exact⟨i+1,HF8,Zh (by have:=HB.out;omega)⟩
     |true=>
      have HOK:=Zh hok;clear hok;go_wp2_with (go_at_call 153;refine(HPU.out).mono ?_;rintro e w8 hp8;obtain⟨he8,-,ht8⟩:=HJ.out.step HKK.out hlt HGI.out HXX.out hiN h1 h3 h4 h5 hB hp8;rw[HSS.out]at ht8;rw[HOK.out]at he8;obtain⟨zuv,hc8⟩:=ht8 HOK.out;have HC8:=Zh (hc8 hng);have v1:=zi6 (k:=k+1) zuv (by rw[length_set];exact HNL.out) aa;have v2:=zuv.frozen (k+1);have oG8:Old g w8:=⟨zuv.lt⟩;clear hp8 ht8 hc8 zuv;subst he8)
      go_roundg (qx N n first ((nx.set k (i+1)).set (k+1) 0) ((st++[i]).length-first))
      case measure=>
       have:=HB.out;rw[HG.out,length_append,List.length_singleton,HKK.out,(aa:k+1-first=(k-first)+1)];exact zpQ aa hlt (by have:=HNL.out;omega) aa hiN
      case rel=>exact⟨st++[i],_,HC8,Zh rfl⟩
    ·obtain rfl:i=N:=by have:=HB.out;omega
     have hiN2:¬(i:Int)<(i:Int):=aa
     by_cases hkf:k=first
     ·subst hkf;have hRn:R=none:=by
       have h1:=HJ.out.ans;have h2:=zpP (Zz cd a b P Q) P (n:=n) (st:=zu P st) (nx:=nx.set k i) (by rw[jW,HKK.out];exact hlt) (by rw[jW,HKK.out,HGI.out,HPL.out];exact Zr);rw[jW,HKK.out]at h2;rw[<-h1];exact h2
      have HRN:=Zh hRn;have hkt:((k:Int)==(k:Int))=true:=af
      clear hRn;go_wp2_with fail
      go_quiet (fail)
      go_wp2_with fail
      rw[Exit.noGoto_ret];go_ret;rw[HRN.out];exact⟨rfl,HJ.out.ext.trans Zi,fun t ht=>by cases ht⟩
     ·have zyI:((k:Int)==(first:Int))=false:=by simp;omega
      have hk1:(1:Int)<=(k:Int):=aa
      go_wp2_with fail
      go_quiet (fail)
      have hxq:Ext wr (wr.drewN nq):=Zi;generalize wr.drewN nq=wq at*
      have hJq:CompI ⟨sb,n,i,bA,bc,PA,pc,DA,dc,NA,nc,CV,cb,hs,TA,tc,ob,cd⟩ B g first w0 wq a b P Q tot tv st (nx.set k i) R:=by
       obtain⟨SA3,sc3,rows3,e1,e2,e3⟩:=HJ.out.ex;exact⟨⟨SA3,sc3,rows3,e1.ext hxq,e2,e3⟩,HJ.out.fst,HJ.out.le,HJ.out.row.ext hxq,HJ.out.len,HJ.out.nle,HJ.out.ans,HJ.out.ext.trans hxq⟩
      obtain⟨SA4,sc4,f5,zv4⟩:=hJq.pop HKK.out aa hlt HPL.out HGI.out hB;have zsc:=Zh zv4;have hbq:=hJq.ex;obtain⟨SA5,sc5,rows5,e1,-,-⟩:=hbq;have f6:wq.frozen? ⟨sb,5,none⟩=false:=by have:=e1.blk;simp[World.frozen?,this]
      have oSq:Old sb wq:=⟨zi e1.blk⟩;have hkc:k<=sc4:=by
       have h1:=e1.own.cap;have h2:=e1.cell 5;dsimp only at f5;rw[f5]at h2;injection h2 with h2
       injection h2 with _ _ h3
       rw[h3,<-HKK.out];exact h1.1
      have hk2:((k:Int)-1).toNat=k-1:=aa
      dsimp only at f5;clear zv4 hJq e1;go_wp2_with fail
      go_roundg (qx i n first (nx.set k i) ((st.take (k-1)).length-first))
      case measure=>
       rw[HG.out,length_take,HKK.out,Nat.min_eq_left aa,(aa:k-1-first=k-first-1)];have:=zpR (N:=i) (n:=n) (first:=first) (k:=k) (d:=k-first-1) (nx:=nx) (i:=i) aa hkn (by have:=HNL.out;omega) Zr;rw[(aa:k-first-1+1=k-first)]at this;have:=HNK.out;omega
      case rel=>exact⟨st.take (k-1),_,zsc,Zh rfl⟩
end Go.Proofs.YtgoaelchibpffaaGreat

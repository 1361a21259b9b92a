import Derived.Test.YtgoaelchibpffaaGreatT15
set_option maxHeartbeats 8000000
set_option linter.unusedVariables false
set_option linter.unusedSimpArgs false
namespace Go.Proofs.YtgoaelchibpffaaGreat
variable {na:Bool} {q x x' y y':Int} {m:List (List Int)} {b c d i j k kk n p:Nat} {A B:Option Addr} {w w0 w1:World}
section
open Go.RowKit
theorem zct{ds:List Int}(h:BdL b ds)(hb:1<=b):Bd b (zK ds k):=by
 unfold zK;split
 ·exact Bd.one hb
 ·exact h _
def Zj(m:List (List Int))(i j:Nat):Int:=detF (zS m (zy j i) (zy j j))
theorem znZ(h:MatV w0 A m)(hd:IntsV w1 B (zt m))(h1:m.length=n)(h4:n<=8)(hn:AllLen m n)(hb:BdM b m)(hb1:1<=b)(hbb:b<=1000000)(hi:i<n)(hj:j<n)[hx:Ext w0 w][hy:Ext w1 w]:
  Cq 142 #[.slice A n c,.slice B n d,.int .i64 i,.int .i64 j] w (zA w (.bool (decide (2*((Zj m i j).natAbs:Int)<=zK (zt m) (j+1))))):=by
 have h0:=h.ext hx;have hd0:=hd.ext hy;have HLA:=Zh (fun W(e1:Ext w W)=>zeg (w:=W) (c:=c) h0 h1 h4 hn hb hb1 hbb hi hj);have HMI:=Zh (fun W(e1:Ext w W)=>zbn (w:=W) (c:=d) (n:=n) (k:=j+1) hd0 (by rw[j7];exact h1) aa aa);have hlb:Bd (256*(b+1)) (Zj m i j):=zbl aa hb1 hb;have hmb:Bd (256*(b+1)) (zK (zt m) (j+1)):=zct (zbm aa hb1 hb) aa;have e1:detF (zS m (zy j i) (zy j j))=Zj m i j:=rfl
 rw[e1]at HLA;have hle:=zcs (x:=2*((Zj m i j).natAbs:Int)) (y:=zK (zt m) (j+1));rw[<-hle];clear hle e1 hn hb h1;generalize Zj m i j=L at*
 generalize zK (zt m) (j+1)=M at*
 have HAB:Hid (∀(W1 W:World)(g1:Bool)B1 n1 c1,IntV W1 g1 B1 n1 c1 L->Ext W1 W->Cq 116 #[.agg #[.bool g1,.slice B1 n1 c1]] W (zz W L.natAbs)):=Zh (fun W1 W g1 B1 n1 c1 ha e1=>zdq ha (by have:=ha.bd hlb aa;omega));have HMU:Hid (∀(W1 W2 W:World)(g1:Bool)B1 n1 c1(g2:Bool)B2 n2 c2,IntV W1 g1 B1 n1 c1 2->IntV W2 g2 B2 n2 c2 L.natAbs->Ext W1 W->Ext W2 W->Cq 125 #[.agg #[.bool g1,.slice B1 n1 c1],.agg #[.bool g2,.slice B2 n2 c2]] W (zz W (2*(L.natAbs:Int)))):=Zh (fun W1 W2 W g1 B1 n1 c1 g2 B2 n2 c2 ha hb e1 e2=>zan ha hb (by have:=ha.len (k:=1) ac;omega) (by have:=hb.bd hlb.abs aa;omega))
 have HC:Hid (∀(W1 W2 W:World)(g1:Bool)B1 n1 c1(g2:Bool)B2 n2 c2,IntV W1 g1 B1 n1 c1 (2*(L.natAbs:Int))->IntV W2 g2 B2 n2 c2 M->Ext W1 W->Ext W2 W->Cq 106 #[.agg #[.bool g1,.slice B1 n1 c1],.agg #[.bool g2,.slice B2 n2 c2]] W (zA W (.int .i64 (zo (2*(L.natAbs:Int)) M)))):=Zh (fun W1 W2 W g1 B1 n1 c1 g2 B2 n2 c2 ha hb e1 e2=>za6 ha hb (by have:=ha.bd (k:=2+256*(b+1)) ((show Bd 2 2 from (ac:(2:Int).natAbs<2^2)).mul hlb.abs) aa;omega) (by have:=hb.bd hmb aa;omega))
 rw[(aa:(((j+1:Nat):Int))=(j:Int)+1)]at HMI;go_enter Tryz.func142,Tryz.ntmps142;go_wp2_with (first
  |(go_at_call 114;refine(QF 2 aa aa _).mono ?_;rintro e w2 ⟨g2,B2,k2,d2,rfl,hz2,hs2⟩)
  |(go_at_call 145;refine(HLA.out _ Zi).mono ?_;rintro e w3 ⟨g3,B3,k3,d3,rfl,hz3,hs3⟩)
  |(go_at_call 116;refine(HAB.out _ _ _ _ _ _ hz3 Zi).mono ?_;rintro e w4 ⟨g4,B4,k4,d4,rfl,hz4,hs4⟩)
  |(go_at_call 125;refine(HMU.out _ _ _ _ _ _ _ _ _ _ _ hz2 hz4 Zi Zi).mono ?_;rintro e w5 ⟨g5,B5,k5,d5,rfl,hz5,hs5⟩)
  |(go_at_call 146;refine(HMI.out _ Zi).mono ?_;rintro e w6 ⟨g6,B6,k6,d6,rfl,hz6,hs6⟩)
  |(go_at_call 106;refine(HC.out _ _ _ _ _ _ _ _ _ _ _ hz5 hz6 Zi Zi).mono ?_;rintro e w7 ⟨rfl,hs7⟩))
 go_ret;exact⟨rfl,Step.of _ _⟩
theorem zn0(h:MatV w0 A m)(hd:IntsV w1 B (zt m))(h1:m.length=n)(h4:n<=8)(hn:AllLen m n)(hb:BdM b m)(hb1:1<=b)(hbb:b<=1000000)(hi:i<n)(hi1:1<=i)[hx:Ext w0 w][hy:Ext w1 w]:
  Cq 147 #[.slice A n c,.slice B n d,.int .i64 i] w (zA w (.bool (decide (3*(zK (zt m) i*zK (zt m) i)<=4*(zK (zt m) (i-1)*zK (zt m) (i+1)+Zj m i (i-1)*Zj m i (i-1)))))):=by
 have h0:=h.ext hx;have hd0:=hd.ext hy;have HLA:=Zh (fun W(e1:Ext w W)=>zeg (w:=W) (c:=c) (i:=i) (j:=i-1) h0 h1 h4 hn hb hb1 hbb hi aa);have HM0:=Zh (fun W(e1:Ext w W)=>zbn (w:=W) (c:=d) (n:=n) (k:=i-1) hd0 (by rw[j7];exact h1) aa aa);have HM1:=Zh (fun W(e1:Ext w W)=>zbn (w:=W) (c:=d) (n:=n) (k:=i) hd0 (by rw[j7];exact h1) aa aa);have HM2:=Zh (fun W(e1:Ext w W)=>zbn (w:=W) (c:=d) (n:=n) (k:=i+1) hd0 (by rw[j7];exact h1) aa aa)
 have hlb:Bd (256*(b+1)) (Zj m i (i-1)):=zbl aa hb1 hb;have hmb:∀k,Bd (256*(b+1)) (zK (zt m) k):=fun k=>zct (zbm aa hb1 hb) aa
 have hm0:=hmb (i-1);have hm1:=hmb i;have hm2:=hmb (i+1);have e1:detF (zS m (zy (i-1) i) (zy (i-1) (i-1)))=Zj m i (i-1):=rfl;rw[e1]at HLA;rw[(aa:(((i+1:Nat):Int))=(i:Int)+1)]at HM2;rw[(aa:(((i-1:Nat):Int))=(i:Int)-1)]at HM0 HLA;rw[<-znW];obtain⟨K,hK⟩:=Xz (256*(b+1));have hK2:K<=256000256:=aa
 have hK1:1<=K:=aa
 have hw1:IntKind.i64.wrap ((i:Int)-1)=(i:Int)-1:=Iw;have hw2:IntKind.i64.wrap ((i:Int)+1)=(i:Int)+1:=Iw;rw[<-hK]at hlb hm0 hm1 hm2;clear hK hmb e1 hn hb h1;generalize Zj m i (i-1)=L at*
 generalize zK (zt m) (i-1)=D0 at*
 generalize zK (zt m) (i+1)=D2 at*
 generalize zK (zt m) i=D1 at*
 have hb2:∀{x y:Int},Bd K x->Bd K y->Bd (2*K) (x*y):=fun h1 h2=>by have:=h1.mul h2;rwa [(aa:K+K=2*K)]at this
 have HMU:Hid (∀(x y:Int)(W1 W2 W:World)(g1:Bool)B1 n1 c1(g2:Bool)B2 n2 c2,IntV W1 g1 B1 n1 c1 x->IntV W2 g2 B2 n2 c2 y->Bd (3*K+1) x->Bd (3*K+1) y->Ext W1 W->Ext W2 W->Cq 125 #[.agg #[.bool g1,.slice B1 n1 c1],.agg #[.bool g2,.slice B2 n2 c2]] W (zz W (x*y))):=Zh (fun x y W1 W2 W g1 B1 n1 c1 g2 B2 n2 c2 ha hb b1 b2 e1 e2=>zan ha hb (by have:=ha.bd b1 aa;omega) (by have:=hb.bd b2 aa;omega))
 have HAD:Hid (∀(x y:Int)(W1 W2 W:World)(g1:Bool)B1 n1 c1(g2:Bool)B2 n2 c2,IntV W1 g1 B1 n1 c1 x->IntV W2 g2 B2 n2 c2 y->Bd (3*K+1) x->Bd (3*K+1) y->Ext W1 W->Ext W2 W->Cq 180 #[.agg #[.bool g1,.slice B1 n1 c1],.agg #[.bool g2,.slice B2 n2 c2]] W (zz W (x+y))):=Zh (fun x y W1 W2 W g1 B1 n1 c1 g2 B2 n2 c2 ha hb b1 b2 e1 e2=>zam ha hb (by have:=ha.bd b1 aa;omega) (by have:=hb.bd b2 aa;omega))
 have HC:Hid (∀(x y:Int)(W1 W2 W:World)(g1:Bool)B1 n1 c1(g2:Bool)B2 n2 c2,IntV W1 g1 B1 n1 c1 x->IntV W2 g2 B2 n2 c2 y->Bd (8*K+100) x->Bd (8*K+100) y->Ext W1 W->Ext W2 W->Cq 106 #[.agg #[.bool g1,.slice B1 n1 c1],.agg #[.bool g2,.slice B2 n2 c2]] W (zA W (.int .i64 (zo x y)))):=Zh (fun x y W1 W2 W g1 B1 n1 c1 g2 B2 n2 c2 ha hb b1 b2 e1 e2=>za6 ha hb (by have:=ha.bd b1 aa;omega) (by have:=hb.bd b2 aa;omega))
 have HBB:Hid (Bd (3*K+1) 4/\Bd (3*K+1) 3/\Bd (3*K+1) L/\Bd (3*K+1) D0/\Bd (3*K+1) D1/\Bd (3*K+1) D2/\Bd (3*K+1) (D0*D2)/\Bd (3*K+1) (L*L)/\Bd (3*K+1) (D0*D2+L*L)/\Bd (3*K+1) (D1*D1)/\Bd (8*K+100) (4*(D0*D2+L*L))/\Bd (8*K+100) (3*(D1*D1))):=Zh (by
  have q1:=hb2 hm0 hm2;have q2:=hb2 hlb hlb;have q3:=q1.add q2;have q4:=hb2 hm1 hm1;have f4:Bd 3 4:=(ac:(4:Int).natAbs<2^3);have f3:Bd 3 3:=(ac:(3:Int).natAbs<2^3);exact⟨f4.mono aa,f3.mono aa,hlb.mono aa,hm0.mono aa,hm1.mono aa,hm2.mono aa,q1.mono aa,q2.mono aa,q3.mono aa,q4.mono aa,(f4.mul q3).mono aa,(f3.mul q4).mono aa⟩)
 obtain⟨P1,hP1⟩:=Yz (D0*D2);obtain⟨P2,hP2⟩:=Yz (L*L);obtain⟨P3,hP3⟩:=Yz (D1*D1);have HP:=Zh (And.intro hP1 (And.intro hP2 hP3));rw[hP1,hP2,hP3]at HBB|-
 clear hb2 hlb hm0 hm1 hm2 hP1 hP2 hP3;go_enter Tryz.func147,Tryz.ntmps147;go_wp2_with (go_at_call 145;refine(HLA.out _ Zi).mono ?_;rintro e wa ⟨ga,Ba,ka,da,rfl,hza,hsa⟩)
 obtain⟨w7,hw7⟩:=Xz (wa.alloc (.cells #[.bool ga,.slice Ba ka da] 102));have hx7:Ext wa w7:=by rw[hw7];exact Zi
 have hbx:w7.heap[wa.heap.size]? =some (.cells #[.bool ga,.slice Ba ka da] 102 (0,0)):=by rw[hw7];exact heap_alloc_new wa _
 obtain⟨p1,p2,p3,p4,p5⟩:=zN hbx;have o7:Old wa.heap.size w7:=⟨p5⟩;have zxi:Ext w w7:=Ext.trans Zi hx7;have zvQ:=hza.ext hx7;have HZA:=Zh zvQ;have HCE:=Zh (And.intro p1 p2);rw[<-hw7];clear hza zvQ hbx hw7;go_wp2_with fail
 go_cut [8] (fun s8 wx=>∃p:Nat,s8= .pointer (some ⟨p,0,none⟩)/\Hid (Box wx p (4*(P1+P2)))/\Ext w7 wx)
 case first=>
  go_region_held3 (fun w'=>w'.cell? ⟨wa.heap.size,0,none⟩=some (.bool ga)/\w'.cell? ⟨wa.heap.size,1,none⟩=some (.slice Ba ka da)) (exact⟨(zk w7).trans HCE.out.1,(zk w7).trans HCE.out.2⟩)
   (first
    |(go_at_call 114;refine(QF 4 aa aa _).mono ?_;rintro e w2 ⟨g2,B2,k2,d2,rfl,hz2,hs2⟩)
    |(go_at_call 146;first
      |(have hh:=hz3;clear hh;refine(HM2.out _ Zi).mono ?_;rintro e w4 ⟨g4,B4,k4,d4,rfl,hz4,hs4⟩)
      |(refine(HM0.out _ Zi).mono ?_;rintro e w3 ⟨g3,B3,k3,d3,rfl,hz3,hs3⟩))
    |(go_at_call 125;first
      |(have hh:=hz8;clear hh;refine(HMU.out 4 (P1+P2) _ _ _ _ _ _ _ _ _ _ _ hz2 hz8 HBB.out.1 HBB.out.2.2.2.2.2.2.2.2.1 Zi Zi).mono ?_;rintro e w9 ⟨g9,B9,k9,d9,rfl,hz9,hs9⟩)
      |(have hh:=hz5;clear hh;refine(HMU.out L L _ _ _ _ _ _ _ _ _ _ _ HZA.out HZA.out HBB.out.2.2.1 HBB.out.2.2.1 Zi Zi).mono ?_;rintro e w6 ⟨g6,B6,k6,d6,rfl,hz6,hs6⟩;rw[HP.out.2.1]at hz6)
      |(refine(HMU.out D0 D2 _ _ _ _ _ _ _ _ _ _ _ hz3 hz4 HBB.out.2.2.2.1 HBB.out.2.2.2.2.2.1 Zi Zi).mono ?_;rintro e w5 ⟨g5,B5,k5,d5,rfl,hz5,hs5⟩;rw[HP.out.1]at hz5))
    |(go_at_call 180;refine(HAD.out P1 P2 _ _ _ _ _ _ _ _ _ _ _ hz5 hz6 HBB.out.2.2.2.2.2.2.1 HBB.out.2.2.2.2.2.2.2.1 Zi Zi).mono ?_;rintro e w8 ⟨g8,B8,k8,d8,rfl,hz8,hs8⟩))
  all_goals (go_wp2_with fail;go_meet;exact⟨_,rfl,Zh ⟨g9,B9,k9,d9,BlkAt.eq,hz9.keeps⟩,Zi⟩)
 case rest=>
  obtain⟨p,rfl,HBX,hxc⟩:=hcut;obtain⟨g9,B9,k9,d9,hbk,r1,r2,r3,r4,r5,hz9⟩:=HBX.out.cells;have oP:Old p wc:=⟨r5⟩;have zyk:Ext w wc:=zxi.trans hxc;have HZ9:=Zh hz9;have HC9:=Zh (And.intro r1 r2);clear hbk hz9;go_wp2_with fail
  go_region_held3 (fun w'=>w'.cell? ⟨p,0,none⟩=some (.bool g9)/\w'.cell? ⟨p,1,none⟩=some (.slice B9 k9 d9)) (exact⟨(zk wc).trans HC9.out.1,(zk wc).trans HC9.out.2⟩)
   (first
    |(go_at_call 114;refine(QF 3 aa aa _).mono ?_;rintro e w2 ⟨g2,B2,k2,d2,rfl,hz2,hs2⟩)
    |(go_at_call 146;first
      |(have hh:=hz3;clear hh;refine(HM1.out _ Zi).mono ?_;rintro e w4 ⟨g4,B4,k4,d4,rfl,hz4,hs4⟩)
      |(refine(HM1.out _ Zi).mono ?_;rintro e w3 ⟨g3,B3,k3,d3,rfl,hz3,hs3⟩))
    |(go_at_call 125;first
      |(have hh:=hz5;clear hh;refine(HMU.out 3 P3 _ _ _ _ _ _ _ _ _ _ _ hz2 hz5 HBB.out.2.1 HBB.out.2.2.2.2.2.2.2.2.2.1 Zi Zi).mono ?_;rintro e w6 ⟨g6,B6,k6,d6,rfl,hz6,hs6⟩)
      |(refine(HMU.out D1 D1 _ _ _ _ _ _ _ _ _ _ _ hz3 hz4 HBB.out.2.2.2.2.1 HBB.out.2.2.2.2.1 Zi Zi).mono ?_;rintro e w5 ⟨g5,B5,k5,d5,rfl,hz5,hs5⟩;rw[HP.out.2.2]at hz5))
    |(go_at_call 106;refine(HC.out (4*(P1+P2)) (3*P3) _ _ _ _ _ _ _ _ _ _ _ HZ9.out hz6 HBB.out.2.2.2.2.2.2.2.2.2.2.1 HBB.out.2.2.2.2.2.2.2.2.2.2.2 Zi Zi).mono ?_;rintro e w7 ⟨rfl,hs7⟩))
  all_goals
   go_wp2_with fail
   go_ret;exact⟨rfl,Step.of _ _⟩
instance TNe.u32_Rat:TNe 212 173:=⟨ac⟩
def zaB(w:World)(F:Int->Int->Prop)(e:Ending)(w':World):Prop:=∃g B k d g' B' k' d' p q,e= .returned (.agg #[.bool g,.slice B k d,.bool g',.slice B' k' d'])/\IntV w' g B k d p/\IntV w' g' B' k' d' q/\F p q/\Step w w'
def zhC(w:World)(F:Int->Int->Prop)(e:Ending)(w':World):Prop:=∃g B k d g' B' k' d' p q,e= .returned (.tuple #[.agg #[.bool g,.slice B k d,.bool g',.slice B' k' d'],.bool true])/\IntV w' g B k d p/\IntV w' g' B' k' d' q/\F p q/\Step w w'
theorem jq{x0 x1 x2 x3:Value}{T:TypeId}(h:w.heap[b]? =some (.cells #[x0,x1,x2,x3] T (0,0))):(w.cell? ⟨b,0,none⟩=some x0/\w.cell? ⟨b,1,none⟩=some x1/\w.cell? ⟨b,2,none⟩=some x2/\w.cell? ⟨b,3,none⟩=some x3)/\(w.frozen? ⟨b,0,none⟩=false/\w.frozen? ⟨b,1,none⟩=false/\w.frozen? ⟨b,2,none⟩=false/\w.frozen? ⟨b,3,none⟩=false)/\b<w.heap.size:=
 ⟨⟨by simp[World.cell?,h],by simp[World.cell?,h],by simp[World.cell?,h],by simp[World.cell?,h]⟩,⟨by simp[World.frozen?,h],by simp[World.frozen?,h],by simp[World.frozen?,h],by simp[World.frozen?,h]⟩,zi h⟩
theorem zaC{W:World}{o:Nat}{u0 u1 u2 u3:Value}(h:c≠b):((((W.setCell ⟨b,0,none⟩ u0).setCell ⟨b,1,none⟩ u1).setCell ⟨b,2,none⟩ u2).setCell ⟨b,3,none⟩ u3).cell? ⟨c,o,none⟩=W.cell? ⟨c,o,none⟩:=by
 have key:∀i,(⟨b,i,none⟩:Addr)≠⟨c,o,none⟩:=fun i e=>by injection e with e1 e2;exact h e1.symm
 rw[World.cell?_setCell_other _ _ _ _ (key 3),World.cell?_setCell_other _ _ _ _ (key 2),World.cell?_setCell_other _ _ _ _ (key 1),World.cell?_setCell_other _ _ _ _ (key 0)]
theorem zn1 :Cq 208 #[] w (zaB w fun p q=>p=1/\q=2):=by
 go_enter Tryz.func208,Tryz.ntmps208;go_wp2_with fail
 refine(QF 1 aa aa _).mono ?_;rintro e w1 ⟨g1,B1,k1,d1,rfl,hz1,hs1⟩;go_wp2_with fail
 refine(QF 2 aa aa _).mono ?_;rintro e w2 ⟨g2,B2,k2,d2,rfl,hz2,hs2⟩;have hb:=(Zi:BlkAt w.heap.size #[.bool false,.slice none 0 0,.bool false,.slice none 0 0] 173 w2).eq;obtain⟨⟨a0,a1,a2,a3⟩,⟨f0,f1,f2,f3⟩,a4⟩:=jq hb;have tq:Typed w.heap.size 173 w2:=⟨_,_,hb⟩;have zxj:=hz1.ext hs2.ext;clear hb;go_wp2_with fail
 exact bodyPost_ret (v:= .agg #[.bool g1,.slice B1 k1 d1,.bool g2,.slice B2 k2 d2]) (by simp[results,Tryz.results208,go_sem,a0,a1,a2,a3]) rfl ⟨_,_,_,_,_,_,_,_,1,2,rfl,zxj.keeps,hz2.keeps,⟨rfl,rfl⟩,Step.of _ _⟩
theorem zhD{nb:Bool}(ha:IntV w0 na A n c x)(hb:IntV w1 nb B k d y)(hkk:kk<=8000000000000)(hbx:Bd kk x)(hby:Bd kk y)(hy0:0<y)[hx:Ext w0 w][hy:Ext w1 w]:
  Cq 266 #[.agg #[.bool na,.slice A n c],.agg #[.bool nb,.slice B k d]] w (zhC w (RatOf x y)):=by
 have ln:=ha.bd hbx hkk;have lk:=hb.bd hby hkk;have hsg:zo y 0=1:=Ql hy0;have HSG:=Zh (fun W(hh:Ext w1 W)=>jA (w:=W) hb aa);rw[hsg]at HSG;have HGC:=Zh (fun W(e1:Ext w0 W)(e2:Ext w1 W)=>znK (w:=W) ha hb hkk hbx hby);have hgp:=zhe (num:=x) (aa:y≠0);have hro:=RatOf.new (num:=x) hy0;have hgb:Bd kk (Int.gcd x y:Int):=hby.le (by
  have:=Int.le_of_dvd hy0 (Int.gcd_dvd_right (a:=x) (b:=y));omega)
 generalize (Int.gcd x y:Int)=G at*
 have HQ1:Hid (∀(W1 W:World)(g1:Bool)B1 n1 c1,IntV W1 g1 B1 n1 c1 G->Ext W1 W->Ext w0 W->Cq 127 #[.agg #[.bool na,.slice A n c],.agg #[.bool g1,.slice B1 n1 c1]] W (zz W (x / G))):=Zh (fun W1 W g1 B1 n1 c1 hg e1 e2=>zcm ha hg ln (hg.bd hgb hkk) aa);have HQ2:Hid (∀(W1 W:World)(g1:Bool)B1 n1 c1,IntV W1 g1 B1 n1 c1 G->Ext W1 W->Ext w1 W->Cq 127 #[.agg #[.bool nb,.slice B k d],.agg #[.bool g1,.slice B1 n1 c1]] W (zz W (y / G))):=Zh (fun W1 W g1 B1 n1 c1 hg e1 e2=>zcm hb hg lk (hg.bd hgb hkk) aa)
 have HRO:=Zh hro;clear hsg hro hgb hgp ln lk;go_enter Tryz.func266,Tryz.ntmps266;go_wp2_with (first
  |(go_at_call 126;first
    |(have hh:=hsq;clear hh;refine(HSG.out _ Zi).mono ?_;rintro e w3 ⟨rfl,hs3⟩;have hb3:=(Zi:BlkAt w.heap.size #[.bool na,.slice A n c] 102 w3).eq;have hb4:=(Zi:BlkAt (w.heap.size+1) #[.bool nb,.slice B k d] 102 w3).eq;obtain⟨u1,u2,-,-,-⟩:=zN hb3;obtain⟨u3,u4,-,-,-⟩:=zN hb4;clear hb3 hb4)
    |(refine(HSG.out _ Zi).mono ?_;rintro e w2 ⟨rfl,hs2⟩;have hb3:=(Zi:BlkAt (w.heap.size+1) #[.bool nb,.slice B k d] 102 w2).eq;obtain⟨v3,v4,-,-,-⟩:=zN hb3;clear hb3;have hsq:=hs2))
  |(go_at_call 301;refine(HGC.out _ Zi Zi).mono ?_;rintro e w4 ⟨g4,B4,k4,d4,rfl,hz4,hs4⟩))
 have HZ4:=Zh hz4;clear hz4;obtain⟨w5,hw5⟩:=Xz (w4.alloc (.cells #[.bool g4,.slice B4 k4 d4] 102));have zt3:Ext w4 w5:=by rw[hw5];exact Zi
 have q2:w5.heap[w4.heap.size]? =some (.cells #[.bool g4,.slice B4 k4 d4] 102 (0,0)):=by rw[hw5];exact heap_alloc_new w4 _
 have q0:=zg zt3 (Zi:BlkAt w.heap.size #[.bool na,.slice A n c] 102 w4).eq;have q1:=zg zt3 (Zi:BlkAt (w.heap.size+1) #[.bool nb,.slice B k d] 102 w4).eq;have q3:=zg zt3 (Zi:BlkAt (w.heap.size+1+1) #[.bool false,.slice none 0 0,.bool false,.slice none 0 0] 173 w4).eq;have ztZ:Ext w w5:=Ext.trans Zi zt3;have HX0:Hid (Ext w0 w5):=Zh (hx.trans ztZ);have HX1:Hid (Ext w1 w5):=Zh (hy.trans ztZ);have HZ5:=Zh (HZ4.out.ext zt3)
 have HQS:=Zh (And.intro q0 (And.intro q1 (And.intro q2 q3)));have zyl:w.heap.size+1+1<w4.heap.size:=(Zi:Old (w.heap.size+1+1) w4).lt;have HLL:Hid (∀W,Ext w5 W->W.cell? ⟨w.heap.size,0,none⟩=some (.bool na)/\W.cell? ⟨w.heap.size,1,none⟩=some (.slice A n c)/\W.cell? ⟨w.heap.size+1,0,none⟩=some (.bool nb)/\W.cell? ⟨w.heap.size+1,1,none⟩=some (.slice B k d)/\W.cell? ⟨w4.heap.size,0,none⟩=some (.bool g4)/\W.cell? ⟨w4.heap.size,1,none⟩=some (.slice B4 k4 d4)):=Zh (fun W hh=>by
  obtain⟨a1,a2,-⟩:=zN (zg hh HQS.out.1);obtain⟨b1,b2,-⟩:=zN (zg hh HQS.out.2.1);obtain⟨c1,c2,-⟩:=zN (zg hh HQS.out.2.2.1);exact⟨a1,a2,b1,b2,c1,c2⟩)
 have HLF:Hid (∀W,Ext w5 W->∀(u0 u1 u2 u3:Value),((((W.setCell ⟨w.heap.size+1+1,0,none⟩ u0).setCell ⟨w.heap.size+1+1,1,none⟩ u1).setCell ⟨w.heap.size+1+1,2,none⟩ u2).setCell ⟨w.heap.size+1+1,3,none⟩ u3).cell? ⟨w.heap.size,0,none⟩=some (.bool na)/\((((W.setCell ⟨w.heap.size+1+1,0,none⟩ u0).setCell ⟨w.heap.size+1+1,1,none⟩ u1).setCell ⟨w.heap.size+1+1,2,none⟩ u2).setCell ⟨w.heap.size+1+1,3,none⟩ u3).cell? ⟨w.heap.size,1,none⟩=some (.slice A n c)/\((((W.setCell ⟨w.heap.size+1+1,0,none⟩ u0).setCell ⟨w.heap.size+1+1,1,none⟩ u1).setCell ⟨w.heap.size+1+1,2,none⟩ u2).setCell ⟨w.heap.size+1+1,3,none⟩ u3).cell? ⟨w.heap.size+1,0,none⟩=some (.bool nb)/\((((W.setCell ⟨w.heap.size+1+1,0,none⟩ u0).setCell ⟨w.heap.size+1+1,1,none⟩ u1).setCell ⟨w.heap.size+1+1,2,none⟩ u2).setCell ⟨w.heap.size+1+1,3,none⟩ u3).cell? ⟨w.heap.size+1,1,none⟩=some (.slice B k d)/\((((W.setCell ⟨w.heap.size+1+1,0,none⟩ u0).setCell ⟨w.heap.size+1+1,1,none⟩ u1).setCell ⟨w.heap.size+1+1,2,none⟩ u2).setCell ⟨w.heap.size+1+1,3,none⟩ u3).cell? ⟨w4.heap.size,0,none⟩=some (.bool g4)/\((((W.setCell ⟨w.heap.size+1+1,0,none⟩ u0).setCell ⟨w.heap.size+1+1,1,none⟩ u1).setCell ⟨w.heap.size+1+1,2,none⟩ u2).setCell ⟨w.heap.size+1+1,3,none⟩ u3).cell? ⟨w4.heap.size,1,none⟩=some (.slice B4 k4 d4)):=Zh (fun W hh u0 u1 u2 u3=>by
  obtain⟨a1,a2,b1,b2,c1,c2⟩:=HLL.out W hh;exact⟨(zaC aa).trans a1,(zaC aa).trans a2,(zaC aa).trans b1,(zaC aa).trans b2,(zaC aa).trans c1,(zaC aa).trans c2⟩)
 have HRB:Hid (∀W,Ext w5 W->W.heap[w.heap.size+1+1]? =some (.cells #[.bool false,.slice none 0 0,.bool false,.slice none 0 0] 173 (0,0))):=Zh (fun W hh=>zg hh HQS.out.2.2.2);rw[<-hw5];clear q0 q1 q2 q3 hw5;have i0:Ext w0 w5:=HX0.out;have i1:Ext w1 w5:=HX1.out;go_wp2_with fail
 go_region_held3 (fun W=>W.cell? ⟨w.heap.size,0,none⟩=some (.bool na)/\W.cell? ⟨w.heap.size,1,none⟩=some (.slice A n c)/\W.cell? ⟨w.heap.size+1,0,none⟩=some (.bool nb)/\W.cell? ⟨w.heap.size+1,1,none⟩=some (.slice B k d)/\W.cell? ⟨w4.heap.size,0,none⟩=some (.bool g4)/\W.cell? ⟨w4.heap.size,1,none⟩=some (.slice B4 k4 d4))
  (first|exact HLL.out _ Zi|exact HLF.out _ Zi _ _ _ _)
  (first
   |(go_at_call 127;first
     |(have hh:=hz6;clear hh;refine(HQ2.out _ _ _ _ _ _ HZ5.out Zi Zi).mono ?_;rintro e w7 ⟨g7,B7,k7,d7,rfl,hz7,hs7⟩;obtain⟨⟨a0,a1,a2,a3⟩,⟨f0,f1,f2,f3⟩,a4⟩:=jq (HRB.out w7 Zi);have tq:Typed (w.heap.size+1+1) 173 w7:=⟨_,_,HRB.out w7 Zi⟩)
     |(refine(HQ1.out _ _ _ _ _ _ HZ5.out Zi Zi).mono ?_;rintro e w6 ⟨g6,B6,k6,d6,rfl,hz6,hs6⟩)))
 all_goals
  have zxk:=hz6.ext (Zi:Ext w6 w7);go_wp2_with fail
  exact bodyPost_ret (v:= .tuple #[.agg #[.bool g6,.slice B6 k6 d6,.bool g7,.slice B7 k7 d7],.bool true]) (by simp[results,Tryz.results266,go_sem,a0,a1,a2,a3]) rfl ⟨_,_,_,_,_,_,_,_,_,_,rfl,zxk.keeps,hz7.keeps,HRO.out,Step.of _ _⟩
theorem zcu{nb:Bool}(ha:IntV w0 na A n c x)(hb:IntV w1 nb B k d y)(hkk:kk<=8000000000000)(hbx:Bd kk x)(hby:Bd kk y)(hy0:0<y)[hx:Ext w0 w][hy:Ext w1 w]:
  Cq 209 #[.agg #[.bool na,.slice A n c,.bool nb,.slice B k d]] w (zaB w (RatOf x y)):=by
 have HN:=Zh (fun W(e1:Ext w0 W)(e2:Ext w1 W)=>zhD (w:=W) ha hb hkk hbx hby hy0);go_enter Tryz.func209,Tryz.ntmps209;go_wp2_with (go_at_call 266;refine(HN.out _ Zi Zi).mono ?_;rintro e w2 ⟨g6,B6,k6,d6,g7,B7,k7,d7,p,q,rfl,hz6,hz7,hF,hs2⟩;have hbk:=(Zi:BlkAt (w.heap.size+1) #[.bool false,.slice none 0 0,.bool false,.slice none 0 0] 173 w2).eq;obtain⟨⟨a0,a1,a2,a3⟩,⟨f0,f1,f2,f3⟩,a4⟩:=jq hbk;have tq:Typed (w.heap.size+1) 173 w2:=⟨_,_,hbk⟩;clear hbk)
 exact bodyPost_ret (v:= .agg #[.bool g6,.slice B6 k6 d6,.bool g7,.slice B7 k7 d7]) (by simp[results,Tryz.results209,go_sem,a0,a1,a2,a3]) rfl ⟨_,_,_,_,_,_,_,_,p,q,rfl,hz6.keeps,hz7.keeps,hF,Step.of _ _⟩
theorem zn2{nb:Bool}(ha:IntV w0 na A n c x)(hb:IntV w1 nb B k d y)(hkk:kk<=8000000000000)(hbx:Bd kk x)(hby:Bd kk y)(hy0:0<y)[hx:Ext w0 w][hy:Ext w1 w]:
  Cq 144 #[.agg #[.bool na,.slice A n c],.agg #[.bool nb,.slice B k d]] w (zaB w (RatOf x y)):=by
 have HN:=Zh (fun W(e1:Ext w0 W)(e2:Ext w1 W)=>zcu (w:=W) ha hb hkk hbx hby hy0);go_enter Tryz.func144,Tryz.ntmps144;go_wp2_with (go_at_call 209;refine(HN.out _ Zi Zi).mono ?_;rintro e w2 ⟨g6,B6,k6,d6,g7,B7,k7,d7,p,q,rfl,hz6,hz7,hF,hs2⟩;have hbk:=(Zi:BlkAt (w.heap.size+1+1) #[.bool false,.slice none 0 0,.bool false,.slice none 0 0] 173 w2).eq;obtain⟨⟨a0,a1,a2,a3⟩,⟨f0,f1,f2,f3⟩,a4⟩:=jq hbk;have tq:Typed (w.heap.size+1+1) 173 w2:=⟨_,_,hbk⟩;clear hbk)
 exact bodyPost_ret (v:= .agg #[.bool g6,.slice B6 k6 d6,.bool g7,.slice B7 k7 d7]) (by simp[results,Tryz.results144,go_sem,a0,a1,a2,a3]) rfl ⟨_,_,_,_,_,_,_,_,p,q,rfl,hz6.keeps,hz7.keeps,hF,Step.of _ _⟩
theorem zn3{nb:Bool}(ha:IntV w0 na A n c x)(hb:IntV w1 nb B k d y)(hkk:kk<=8000000000000)(hbx:Bd kk x)(hby:Bd kk y)(hy0:0<y)[hx:Ext w0 w][hy:Ext w1 w]:
  Cq 206 #[.agg #[.bool na,.slice A n c,.bool nb,.slice B k d]] w (zz w (x / y)):=by
 have HN:=Zh (fun W(e1:Ext w0 W)(e2:Ext w1 W)=>zcu (w:=W) ha hb hkk hbx hby hy0);have HQ:Hid (∀(W1 W:World)(g1:Bool)B1 n1 c1(g2:Bool)B2 n2 c2 p q,IntV W1 g1 B1 n1 c1 p->IntV W1 g2 B2 n2 c2 q->RatOf x y p q->Ext W1 W->Cq 127 #[.agg #[.bool g1,.slice B1 n1 c1],.agg #[.bool g2,.slice B2 n2 c2]] W (zz W (x / y))):=Zh (fun W1 W g1 B1 n1 c1 g2 B2 n2 c2 p q h1 h2 hF e1=>by
  have:=zcm (w:=W) h1 h2 (h1.bd (hbx.le hF.le1) hkk) (h2.bd (hby.le hF.le2) hkk) (by have:=hF.pos;omega);rwa [zd8 hF.pos hy0 hF.eq]at this)
 go_enter Tryz.func206,Tryz.ntmps206;go_wp2_with (first
  |(go_at_call 209;refine(HN.out _ Zi Zi).mono ?_;rintro e w2 ⟨g6,B6,k6,d6,g7,B7,k7,d7,p,q,rfl,hz6,hz7,hF,hs2⟩)
  |(go_at_call 127;refine(HQ.out _ _ _ _ _ _ _ _ _ _ _ _ hz6 hz7 hF Zi).mono ?_;rintro e w3 ⟨g3,B3,k3,d3,rfl,hz3,hs3⟩;have hbk:=(Zi:BlkAt (w.heap.size+1) #[.bool false,.slice none 0 0] 102 w3).eq;obtain⟨a0,a1,f0,f1,a4⟩:=zN hbk;have tq:Typed (w.heap.size+1) 102 w3:=⟨_,_,hbk⟩;clear hbk))
 exact bodyPost_ret (v:= .agg #[.bool g3,.slice B3 k3 d3]) (by simp[results,Tryz.results206,go_sem,a0,a1]) rfl ⟨_,_,_,_,rfl,hz3.keeps,Step.of _ _⟩
theorem zn4{p p' q' s t:Int}(h1:RatOf x y p q)(h2:RatOf x' y' p' q')(h3:RatOf (p*q'+p'*q) (q*q') s t):s*(y*y')=(x*y'+x'*y)*t:=by
 have hD:0<q*q':=Int.mul_pos h1.pos h2.pos;have e1:=h1.eq;have e2:=h2.eq;have e3:=h3.eq;have key:(q*q')*(s*(y*y'))=(q*q')*((x*y'+x'*y)*t):=by
  have k1:(q*q')*(s*(y*y'))=(s*(q*q'))*(y*y'):=ae
  rw[k1,e3];have k2:(p*q'+p'*q)*t*(y*y')=((p*y)*(q'*y')+(p'*y')*(q*y))*t:=ae
  rw[k2,e1,e2];grind
 exact Int.eq_of_mul_eq_mul_left aa key
theorem zn5(w w':World)(x0 x1 x2 x3 y0 y1 y2 y3:Value)(T:TypeId)[h:Ext ((w.alloc (.cells #[x0,x1,x2,x3] T)).alloc (.cells #[y0,y1,y2,y3] T)) w']:
  w'.cell? ⟨w.heap.size,0,none⟩=some x0/\w'.cell? ⟨w.heap.size,1,none⟩=some x1/\w'.cell? ⟨w.heap.size,2,none⟩=some x2/\w'.cell? ⟨w.heap.size,3,none⟩=some x3/\w'.cell? ⟨w.heap.size+1,0,none⟩=some y0/\w'.cell? ⟨w.heap.size+1,1,none⟩=some y1/\w'.cell? ⟨w.heap.size+1,2,none⟩=some y2/\w'.cell? ⟨w.heap.size+1,3,none⟩=some y3:=by
 have h1:w'.heap[w.heap.size]? =some (.cells #[x0,x1,x2,x3] T (0,0)):=zg (Ext.trans Zi h) (heap_alloc_new w _);have h2:w'.heap[w.heap.size+1]? =some (.cells #[y0,y1,y2,y3] T (0,0)):=by
  have:=zg h (heap_alloc_new (w.alloc (.cells #[x0,x1,x2,x3] T)) _);rwa [World.size_alloc]at this
 obtain⟨⟨a0,a1,a2,a3⟩,-,-⟩:=jq h1;obtain⟨⟨c0,c1,c2,c3⟩,-,-⟩:=jq h2;exact⟨a0,a1,a2,a3,c0,c1,c2,c3⟩
structure SumOf(kk:Nat)(x y x' y' s t:Int):Prop where
 pos:0<t
 eq:s*(y*y')=(x*y'+x'*y)*t
 b1:Bd (2*kk+1) s
 b2:Bd (2*kk+1) t
theorem zn6{w2 w3:World}{nb nc nd:Bool}{C D:Option Addr}{ka kb kc kd ca cb cc cd:Nat}(ha:IntV w0 na A ka ca x)(hb:IntV w1 nb B kb cb y)(hc:IntV w2 nc C kc cc x')(hd:IntV w3 nd D kd cd y')(hkk:kk<=1000000000000)(b1:Bd kk x)(b2:Bd kk y)(b3:Bd kk x')(b4:Bd kk y')(hy0:0<y)(zxl:0<y')[i0:Ext w0 w][i1:Ext w1 w][i2:Ext w2 w][i3:Ext w3 w]:
  Cq 207 #[.agg #[.bool na,.slice A ka ca,.bool nb,.slice B kb cb],.agg #[.bool nc,.slice C kc cc,.bool nd,.slice D kd cd]] w (zaB w (SumOf kk x y x' y')):=by
 have HN1:=Zh (fun W(e:Ext w W)=>have:Ext w0 W:=i0.trans e;have:Ext w1 W:=i1.trans e;zcu (w:=W) ha hb aa b1 b2 hy0);have HN2:=Zh (fun W(e:Ext w W)=>have:Ext w2 W:=i2.trans e;have:Ext w3 W:=i3.trans e;zcu (w:=W) hc hd aa b3 b4 zxl);have HB:=Zh (And.intro b1 (And.intro b2 (And.intro b3 b4)));clear ha hb hc hd b1 b2 b3 b4;go_enter Tryz.func207,Tryz.ntmps207;go_wp2_with fail
 go_cut [5,6] (fun s5 s6 wx=>∃(p5 p6:Nat) (g1 g2 g3 g4:Bool) (B1 B2 B3 B4:Option Addr) (k1 k2 k3 k4 d1 d2 d3 d4:Nat) (p q p' q':Int),s5= .pointer (some ⟨p5,0,none⟩)/\s6= .pointer (some ⟨p6,0,none⟩)/\Hid (wx.heap[p5]? =some (.cells #[.bool g1,.slice B1 k1 d1,.bool g2,.slice B2 k2 d2] 173 (0,0)))/\Hid (wx.heap[p6]? =some (.cells #[.bool g3,.slice B3 k3 d3,.bool g4,.slice B4 k4 d4] 173 (0,0)))/\Hid (IntV wx g1 B1 k1 d1 p)/\Hid (IntV wx g2 B2 k2 d2 q)/\Hid (IntV wx g3 B3 k3 d3 p')/\Hid (IntV wx g4 B4 k4 d4 q')/\Hid (RatOf x y p q)/\Hid (RatOf x' y' p' q')/\Hid (wx.heap[w.heap.size+1+1]? =some (.cells #[.bool false,.slice none 0 0,.bool false,.slice none 0 0] 173 (0,0)))/\Ext w wx)
 case first=>
  go_region_held3 (fun W=>W.cell? ⟨w.heap.size,0,none⟩=some (.bool na)/\W.cell? ⟨w.heap.size,1,none⟩=some (.slice A ka ca)/\W.cell? ⟨w.heap.size,2,none⟩=some (.bool nb)/\W.cell? ⟨w.heap.size,3,none⟩=some (.slice B kb cb)/\W.cell? ⟨w.heap.size+1,0,none⟩=some (.bool nc)/\W.cell? ⟨w.heap.size+1,1,none⟩=some (.slice C kc cc)/\W.cell? ⟨w.heap.size+1,2,none⟩=some (.bool nd)/\W.cell? ⟨w.heap.size+1,3,none⟩=some (.slice D kd cd))
   (exact zn5 w _ (.bool na) (.slice A ka ca) (.bool nb) (.slice B kb cb) (.bool nc) (.slice C kc cc) (.bool nd) (.slice D kd cd) 173)
   (first
    |(go_at_call 209;first
      |(have hh:=hF4;clear hh;refine(HN2.out _ Zi).mono ?_;rintro e w5 ⟨g3,B3,k3,d3,g4,B4,k4,d4,p',q',rfl,hz3,hz4,hF5,hs5⟩)
      |(refine(HN1.out _ Zi).mono ?_;rintro e w4 ⟨g1,B1,k1,d1,g2,B2,k2,d2,p,q,rfl,hz1,hz2,hF4,hs4⟩)))
  all_goals (go_wp2_with fail;go_meet;(try have t1:Typed (w.heap.size+1+1+1) 173 w5:=Zi);(try have t2:Typed (w.heap.size+1+1+1+1) 173 w5:=Zi);refine⟨_,_,g1,g2,g3,g4,B1,B2,B3,B4,k1,k2,k3,k4,d1,d2,d3,d4,p,q,p',q',rfl,rfl,Zh ?_,Zh ?_,Zh hz1.keeps,Zh hz2.keeps,Zh hz3.keeps,Zh hz4.keeps,Zh hF4,Zh hF5,Zh BlkAt.eq,Zi⟩)
  all_goals exact BlkAt.eq
 case rest=>
  obtain⟨p5,p6,g1,g2,g3,g4,B1,B2,B3,B4,k1,k2,k3,k4,d1,d2,d3,d4,p,q,p',q',rfl,rfl,H5,H6,HZ1,HZ2,HZ3,HZ4,HF1,HF2,HRS,hxc⟩:=hcut;have HLL:Hid (∀W,Ext wc W->W.cell? ⟨p5,0,none⟩=some (.bool g1)/\W.cell? ⟨p5,1,none⟩=some (.slice B1 k1 d1)/\W.cell? ⟨p5,2,none⟩=some (.bool g2)/\W.cell? ⟨p5,3,none⟩=some (.slice B2 k2 d2)/\W.cell? ⟨p6,0,none⟩=some (.bool g3)/\W.cell? ⟨p6,1,none⟩=some (.slice B3 k3 d3)/\W.cell? ⟨p6,2,none⟩=some (.bool g4)/\W.cell? ⟨p6,3,none⟩=some (.slice B4 k4 d4)):=Zh (fun W hh=>by
   obtain⟨⟨a0,a1,a2,a3⟩,-,-⟩:=jq (zg hh H5.out);obtain⟨⟨c0,c1,c2,c3⟩,-,-⟩:=jq (zg hh H6.out);exact⟨a0,a1,a2,a3,c0,c1,c2,c3⟩)
  have o5:Old p5 wc:=⟨zi H5.out⟩;have o6:Old p6 wc:=⟨zi H6.out⟩;have HBB:Hid (Bd kk p/\Bd kk q/\Bd kk p'/\Bd kk q'/\Bd (2*kk) (p*q')/\Bd (2*kk) (p'*q)/\Bd (2*kk+1) (p*q'+p'*q)/\Bd (2*kk+1) (q*q')/\0<q*q'):=Zh (by
   have a1:=HB.out.1.le HF1.out.le1;have a2:=HB.out.2.1.le HF1.out.le2;have a3:=HB.out.2.2.1.le HF2.out.le1;have a4:=HB.out.2.2.2.le HF2.out.le2;have m1:=a1.mul a4;have m2:=a3.mul a2;have m3:=a2.mul a4;rw[(aa:kk+kk=2*kk)]at m1 m2 m3;exact⟨a1,a2,a3,a4,m1,m2,m1.add m2,m3.mono aa,Int.mul_pos HF1.out.pos HF2.out.pos⟩)
  have HFS:Hid (∀s t,RatOf (p*q'+p'*q) (q*q') s t->SumOf kk x y x' y' s t):=Zh (fun s t h3=>⟨h3.pos,zn4 HF1.out HF2.out h3,HBB.out.2.2.2.2.2.2.1.le h3.le1,HBB.out.2.2.2.2.2.2.2.1.le h3.le2⟩);have HMU:Hid (∀(x y:Int)(W1 W2 W:World)(g1:Bool)B1 n1 c1(g2:Bool)B2 n2 c2,IntV W1 g1 B1 n1 c1 x->IntV W2 g2 B2 n2 c2 y->Bd kk x->Bd kk y->Ext W1 W->Ext W2 W->Cq 125 #[.agg #[.bool g1,.slice B1 n1 c1],.agg #[.bool g2,.slice B2 n2 c2]] W (zz W (x*y))):=Zh (fun x y W1 W2 W g1 B1 n1 c1 g2 B2 n2 c2 ha hb b1 b2 e1 e2=>zan ha hb (by have:=ha.bd b1 aa;omega) (by have:=hb.bd b2 aa;omega))
  have HAD:Hid (∀(x y:Int)(W1 W2 W:World)(g1:Bool)B1 n1 c1(g2:Bool)B2 n2 c2,IntV W1 g1 B1 n1 c1 x->IntV W2 g2 B2 n2 c2 y->Bd (2*kk) x->Bd (2*kk) y->Ext W1 W->Ext W2 W->Cq 180 #[.agg #[.bool g1,.slice B1 n1 c1],.agg #[.bool g2,.slice B2 n2 c2]] W (zz W (x+y))):=Zh (fun x y W1 W2 W g1 B1 n1 c1 g2 B2 n2 c2 ha hb b1 b2 e1 e2=>zam ha hb (by have:=ha.bd b1 aa;omega) (by have:=hb.bd b2 aa;omega))
  have HNW:Hid (∀(W1 W2 W:World)(g1:Bool)B1 n1 c1(g2:Bool)B2 n2 c2,IntV W1 g1 B1 n1 c1 (p*q'+p'*q)->IntV W2 g2 B2 n2 c2 (q*q')->Ext W1 W->Ext W2 W->Cq 266 #[.agg #[.bool g1,.slice B1 n1 c1],.agg #[.bool g2,.slice B2 n2 c2]] W (zhC W (RatOf (p*q'+p'*q) (q*q')))):=Zh (fun W1 W2 W g1 B1 n1 c1 g2 B2 n2 c2 ha hb e1 e2=>zhD ha hb (kk:=2*kk+1) aa HBB.out.2.2.2.2.2.2.1 HBB.out.2.2.2.2.2.2.2.1 HBB.out.2.2.2.2.2.2.2.2)
  go_wp2_with fail
  go_cut [7,8] (fun s7 s8 wx=>∃(p7:Nat) (g7 g8:Bool) (B7 B8:Option Addr) (k7 k8 d7 d8:Nat) (s t:Int),s7= .pointer (some ⟨p7,0,none⟩)/\s8= .bool true/\Hid (wx.heap[p7]? =some (.cells #[.bool g7,.slice B7 k7 d7,.bool g8,.slice B8 k8 d8] 173 (0,0)))/\Hid (IntV wx g7 B7 k7 d7 s)/\Hid (IntV wx g8 B8 k8 d8 t)/\Hid (SumOf kk x y x' y' s t)/\Ext wc wx)
  case first=>
   go_region_held3 (fun W=>W.cell? ⟨p5,0,none⟩=some (.bool g1)/\W.cell? ⟨p5,1,none⟩=some (.slice B1 k1 d1)/\W.cell? ⟨p5,2,none⟩=some (.bool g2)/\W.cell? ⟨p5,3,none⟩=some (.slice B2 k2 d2)/\W.cell? ⟨p6,0,none⟩=some (.bool g3)/\W.cell? ⟨p6,1,none⟩=some (.slice B3 k3 d3)/\W.cell? ⟨p6,2,none⟩=some (.bool g4)/\W.cell? ⟨p6,3,none⟩=some (.slice B4 k4 d4)) (exact HLL.out _ Zi)
    (first
     |(go_at_call 125;first
       |(have hh:=hzc;clear hh;refine(HMU.out q q' _ _ _ _ _ _ _ _ _ _ _ HZ2.out HZ4.out HBB.out.2.1 HBB.out.2.2.2.1 Zi Zi).mono ?_;rintro e wd ⟨gd,Bd',kd',dd',rfl,hzd,hsd⟩)
       |(have hh:=hza;clear hh;refine(HMU.out p' q _ _ _ _ _ _ _ _ _ _ _ HZ3.out HZ2.out HBB.out.2.2.1 HBB.out.2.1 Zi Zi).mono ?_;rintro e wb ⟨gb,Bb,kb',db',rfl,hzb,hsb⟩)
       |(refine(HMU.out p q' _ _ _ _ _ _ _ _ _ _ _ HZ1.out HZ4.out HBB.out.1 HBB.out.2.2.2.1 Zi Zi).mono ?_;rintro e wa ⟨ga,Ba,ka',da',rfl,hza,hsa⟩))
     |(go_at_call 180;refine(HAD.out (p*q') (p'*q) _ _ _ _ _ _ _ _ _ _ _ hza hzb HBB.out.2.2.2.2.1 HBB.out.2.2.2.2.2.1 Zi Zi).mono ?_;rintro e wd2 ⟨gc,Bc,kc',dc',rfl,hzc,hsc⟩)
     |(go_at_call 266;refine(HNW.out _ _ _ _ _ _ _ _ _ _ _ hzc hzd Zi Zi).mono ?_;rintro e we ⟨g7,B7,k7,d7,g8,B8,k8,d8,s,t,rfl,hz7,hz8,hFe,hse⟩))
   all_goals (go_wp2_with fail;go_meet;exact⟨_,g7,g8,B7,B8,k7,k8,d7,d8,s,t,rfl,rfl,Zh BlkAt.eq,Zh hz7.keeps,Zh hz8.keeps,Zh (HFS.out s t hFe),Zi⟩)
  case rest=>
   obtain⟨p7,g7,g8,B7,B8,k7,k8,d7,d8,s,t,rfl,rfl,H7,HZ7,HZ8,HSM,hxd⟩:=hcut;obtain⟨⟨a0,a1,a2,a3⟩,-,a4⟩:=jq H7.out;have hrs:=zg hxd HRS.out;obtain⟨⟨c0,c1,c2,c3⟩,⟨f0,f1,f2,f3⟩,c4⟩:=jq hrs;rename_i wx
   have tq:Typed (w.heap.size+1+1) 173 wc:=⟨_,_,hrs⟩;have hxw:Ext w wc:=hxc.trans hxd;clear hrs;go_wp2_with fail
   exact bodyPost_ret (v:= .agg #[.bool g7,.slice B7 k7 d7,.bool g8,.slice B8 k8 d8]) (by simp[results,Tryz.results207,go_sem,c0,c1,c2,c3]) rfl ⟨_,_,_,_,_,_,_,_,s,t,rfl,HZ7.out.keeps,HZ8.out.keeps,HSM.out,Step.of _ _⟩
theorem zn7{nb:Bool}(ha:IntV w0 na A n c x)(hb:IntV w1 nb B k d y)(hkk:kk<=1000000000000)(hk2:2<=kk)(hbx:Bd kk x)(hby:Bd kk y)(hy0:0<y)[hx:Ext w0 w][hy:Ext w1 w]:
  Cq 143 #[.agg #[.bool na,.slice A n c,.bool nb,.slice B k d]] w (zz w ((2*x+y) / (2*y))):=by
 have HAD:Hid (∀(W1 W:World)(g1:Bool)B1 n1 c1(g2:Bool)B2 n2 c2,IntV W1 g1 B1 n1 c1 1->IntV W1 g2 B2 n2 c2 2->Ext w W->Ext W1 W->Cq 207 #[.agg #[.bool na,.slice A n c,.bool nb,.slice B k d],.agg #[.bool g1,.slice B1 n1 c1,.bool g2,.slice B2 n2 c2]] W (zaB W (SumOf kk x y 1 2))):=Zh (fun W1 W g1 B1 n1 c1 g2 B2 n2 c2 h1 h2 e1 e2=>have:Ext w0 W:=hx.trans e1;have:Ext w1 W:=hy.trans e1;zn6 ha hb h1 h2 hkk hbx hby (Bd.one aa) ((show Bd 2 2 from (ac:(2:Int).natAbs<2^2)).mono hk2) hy0 ac)
 have HFL:Hid (∀(W1 W:World)(g1:Bool)B1 n1 c1(g2:Bool)B2 n2 c2 s t,IntV W1 g1 B1 n1 c1 s->IntV W1 g2 B2 n2 c2 t->SumOf kk x y 1 2 s t->Ext W1 W->Cq 206 #[.agg #[.bool g1,.slice B1 n1 c1,.bool g2,.slice B2 n2 c2]] W (zz W ((2*x+y) / (2*y)))):=Zh (fun W1 W g1 B1 n1 c1 g2 B2 n2 c2 s t h1 h2 hS e1=>by
  have:=zn3 (w:=W) h1 h2 (kk:=2*kk+1) aa hS.b1 hS.b2 hS.pos;have e:=hS.eq;rwa [zd8 (d:=2*y) (c:=2*x+y) hS.pos aa ae]at this)
 generalize (2*x+y) / (2*y)=R at*
 clear ha hb;go_enter Tryz.func143,Tryz.ntmps143;go_wp2_with fail
 obtain⟨w5,hw5⟩:=Xz ((w.alloc (.cells #[.bool na,.slice A n c,.bool nb,.slice B k d] 173)).alloc (.cells #[.bool false,.slice none 0 0] 102));have q0:w5.heap[w.heap.size]? =some (.cells #[.bool na,.slice A n c,.bool nb,.slice B k d] 173 (0,0)):=by rw[hw5];exact BlkAt.eq
 have q1:w5.heap[w.heap.size+1]? =some (.cells #[.bool false,.slice none 0 0] 102 (0,0)):=by rw[hw5];exact BlkAt.eq
 have ztZ:Ext w w5:=by rw[hw5];exact Zi
 have HQ:=Zh (And.intro q0 q1);have HLL:Hid (∀W,Ext w5 W->W.cell? ⟨w.heap.size,0,none⟩=some (.bool na)/\W.cell? ⟨w.heap.size,1,none⟩=some (.slice A n c)/\W.cell? ⟨w.heap.size,2,none⟩=some (.bool nb)/\W.cell? ⟨w.heap.size,3,none⟩=some (.slice B k d)):=Zh (fun W hh=>(jq (zg hh HQ.out.1)).1);have HLF:Hid (∀W,Ext w5 W->∀(u v:Value),((W.setCell ⟨w.heap.size+1,0,none⟩ u).setCell ⟨w.heap.size+1,1,none⟩ v).cell? ⟨w.heap.size,0,none⟩=some (.bool na)/\((W.setCell ⟨w.heap.size+1,0,none⟩ u).setCell ⟨w.heap.size+1,1,none⟩ v).cell? ⟨w.heap.size,1,none⟩=some (.slice A n c)/\((W.setCell ⟨w.heap.size+1,0,none⟩ u).setCell ⟨w.heap.size+1,1,none⟩ v).cell? ⟨w.heap.size,2,none⟩=some (.bool nb)/\((W.setCell ⟨w.heap.size+1,0,none⟩ u).setCell ⟨w.heap.size+1,1,none⟩ v).cell? ⟨w.heap.size,3,none⟩=some (.slice B k d)):=Zh (fun W hh u v=>by
  obtain⟨a0,a1,a2,a3⟩:=HLL.out W hh;have key:∀(i o:Nat),(⟨w.heap.size+1,i,none⟩:Addr)≠⟨w.heap.size,o,none⟩:=fun i o e=>by injection e with e1 e2;omega
  have k2:∀o,((W.setCell ⟨w.heap.size+1,0,none⟩ u).setCell ⟨w.heap.size+1,1,none⟩ v).cell? ⟨w.heap.size,o,none⟩=W.cell? ⟨w.heap.size,o,none⟩:=fun o=>by rw[World.cell?_setCell_other _ _ _ _ (key 1 o),World.cell?_setCell_other _ _ _ _ (key 0 o)]
  exact⟨(k2 0).trans a0,(k2 1).trans a1,(k2 2).trans a2,(k2 3).trans a3⟩)
 rw[<-hw5];clear q0 q1 hw5;go_region_held3 (fun W=>W.cell? ⟨w.heap.size,0,none⟩=some (.bool na)/\W.cell? ⟨w.heap.size,1,none⟩=some (.slice A n c)/\W.cell? ⟨w.heap.size,2,none⟩=some (.bool nb)/\W.cell? ⟨w.heap.size,3,none⟩=some (.slice B k d))
  (first|exact HLL.out _ Zi|exact HLF.out _ Zi _ _)
  (first
   |(go_at_call 208;refine zn1.mono ?_;rintro e w6 ⟨g6,B6,k6,d6,g7,B7,k7,d7,p,q,rfl,hz6,hz7,⟨rfl,rfl⟩,hs6⟩)
   |(go_at_call 207;refine(HAD.out _ _ _ _ _ _ _ _ _ _ hz6 hz7 Zi Zi).mono ?_;rintro e w7 ⟨g8,B8,k8,d8,g9,B9,k9,d9,s,t,rfl,hz8,hz9,hS,hs7⟩)
   |(go_at_call 206;refine(HFL.out _ _ _ _ _ _ _ _ _ _ _ _ hz8 hz9 hS Zi).mono ?_;rintro e w8 ⟨ga,Ba,ka,da,rfl,hza,hs8⟩;obtain⟨a0,a1,f0,f1,a4⟩:=zN (zg (Zi:Ext w5 w8) HQ.out.2);have tq:Typed (w.heap.size+1) 102 w8:=⟨_,_,zg (Zi:Ext w5 w8) HQ.out.2⟩))
 all_goals
  go_wp2_with fail
  exact bodyPost_ret (v:= .agg #[.bool ga,.slice Ba ka da]) (by simp[results,Tryz.results143,go_sem,a0,a1]) rfl ⟨_,_,_,_,rfl,hza.keeps,Step.of _ _⟩
end
section
open Go.RowKit
open La
theorem zej(hp:Pos (zf (ent m)) n)(hj:j<=n):Zj m i j=E (ent m) j i j:=
 zca (fun l hl=>by have:=QI hp (k:=l) aa;omega) i j
theorem zaD(hl:m.length=n)(hp:Pos (zf (ent m)) n)(hk:k<=n):zK (zt m) k=zF (ent m) k:=by
 unfold zK
 cases k with
 |zero=>rw[if_pos rfl];rfl
 |succ k=>
  rw[if_neg aa,Nat.add_sub_cancel,zmK (by rw[hl];exact hp) aa];rfl
theorem zn8(hl:m.length=n)(hp:Pos (zf (ent m)) n)(hj:j<n):(2*((Zj m i j).natAbs:Int)<=zK (zt m) (j+1))↔QA (zf (ent m)) i j:=by
 rw[zdO (hp.le aa) i,zej hp aa,zaD hl hp aa];have:zF (ent m) (j+1)=E (ent m) j j j:=rfl;rw[this];omega
theorem zn9(hl:m.length=n)(hp:Pos (zf (ent m)) n)(hs:Sym (zf (ent m)))(hpn:p+1<n):(3*(zK (zt m) (p+1)*zK (zt m) (p+1))<=4*(zK (zt m) (p+1-1)*zK (zt m) (p+1+1)+Zj m (p+1) (p+1-1)*Zj m (p+1) (p+1-1)))↔qF (zf (ent m)) p:=by
 rw[zdP hs (hp.le aa),Nat.add_sub_cancel,zej hp aa,zaD hl hp aa,zaD hl hp aa,zaD hl hp aa];exact Iff.rfl
theorem zoa(hi:i<n)(hj:j<n):zI (Q7 n) j i (-q)=qk n i j q:=by
 unfold Q7 qk;rw[Qe hj hi]
theorem zob{a:List (List Int)}(hl:a.length=n)(ha:AllLen a n):a=tab (fun i j=>ent a i j) n n:=by
 have h1:=Jl a n ha;rw[hl]at h1;exact h1.symm
theorem zoc(hp:p+1<n){a:List (List Int)}(ha:a=jn (Q7 n) (p+1) p)(zsy:AllLen a n):a=qu n p:=by
 have hil:(Q7 n).length=n:=zr _ _ _;have hl:a.length=n:=by rw[ha,znS,hil]
 rw[zob hl zsy];unfold qu;refine ZC fun x y hx hy=>?_
 rw[ha,zd6 aa aa];unfold Q7 sg;split
 ·rw[jp _ _ _ _ _ aa hy]
 ·split
  ·rw[jp _ _ _ _ _ aa hy]
  ·rw[jp _ _ _ _ _ aa hy]
theorem zhE(hl:m.length=n)(hp:Pos (zf (ent m)) n)(hj:j<n):qW m i j=(2*Zj m i j+zK (zt m) (j+1)) / (2*zK (zt m) (j+1)):=by
 rw[zej hp aa,zaD hl hp aa];rfl
def zod(w:World)(m:List (List Int))(n:Nat)(e:Ending)(w':World):Prop:=
 (e= .returned (.tuple #[.slice none 0 0,.bool false])/\(∀r,r<n->QB (zf (ent m)) r)/\(∀p,p+1<n->qF (zf (ent m)) p)/\Step w w')∨
 (∃i j A c,e= .returned (.tuple #[.slice A n c,.bool true])/\AtRed (zf (ent m)) n i j/\MatV w' A (qk n i j (qW m i j))/\Step w w')∨
 (∃p A c,e= .returned (.tuple #[.slice A n c,.bool true])/\AtSwap (zf (ent m)) n p/\MatV w' A (qu n p)/\Step w w')
set_option maxRecDepth 10000 in
theorem zoe(h:MatV w0 A m)(h1:m.length=n)(h3:1<=n)(h4:n<=8)(hn:AllLen m n)(hb:BdM b m)(hb1:1<=b)(hbb:b<=1000000)(hp:Pos (zf (ent m)) n)(hs:Sym (zf (ent m)))[hx:Ext w0 w]:
  Cq 75 #[.slice A n c] w (zod w m n):=by
 have h0:=h.ext hx;have HLE:=Zh (fun W(e1:Ext w W)=>zhA (w:=W) (c:=c) h0 h1 h3 h4 hn hb hb1 hbb);have HID:=Zh (fun(W:World)=>zhl (w:=W) n h3 aa);have HLL:Hid ((zt m).length=n):=Zh (by rw[j7];exact h1);have HIL:Hid ((Q7 n).length=n):=Zh (zr _ _ _);have HSZ:Hid (∀(W1 W:World)(B:Option Addr)(d i j:Nat),i<n->j<n->IntsV W1 B (zt m)->Ext w W->Ext W1 W->Cq 142 #[.slice A n c,.slice B n d,.int .i64 i,.int .i64 j] W (zA W (.bool (decide (2*((Zj m i j).natAbs:Int)<=zK (zt m) (j+1)))))):=Zh (fun W1 W B d i j hi hj hI e1 e2=>znZ h0 hI h1 h4 hn hb hb1 hbb hi hj)
 have HLV:Hid (∀(W1 W:World)(B:Option Addr)(d i:Nat),i<n->1<=i->IntsV W1 B (zt m)->Ext w W->Ext W1 W->Cq 147 #[.slice A n c,.slice B n d,.int .i64 i] W (zA W (.bool (decide (3*(zK (zt m) i*zK (zt m) i)<=4*(zK (zt m) (i-1)*zK (zt m) (i+1)+Zj m i (i-1)*Zj m i (i-1))))))):=Zh (fun W1 W B d i hi hi1 hI e1 e2=>zn0 h0 hI h1 h4 hn hb hb1 hbb hi hi1);have HLA:Hid (∀(W:World)(i j:Nat),i<n->j<n->Ext w W->Cq 145 #[.slice A n c,.int .i64 i,.int .i64 j] W (zz W (Zj m i j))):=Zh (fun W i j hi hj e1=>zeg h0 h1 h4 hn hb hb1 hbb hi hj)
 have HMI:Hid (∀(W1 W:World)(B:Option Addr)(d k:Nat),k<=n->IntsV W1 B (zt m)->Ext W1 W->Cq 146 #[.slice B n d,.int .i64 k] W (zz W (zK (zt m) k))):=Zh (fun W1 W B d k hk hI e1=>zbn hI (by rw[j7];exact h1) aa hk);obtain⟨K,hK⟩:=Xz (256*(b+1));have hK1:K<=256000256:=aa
 have hK2:2<=K:=aa
 have HBL:Hid (∀i j,j<n->Bd K (Zj m i j)):=Zh (fun i j hj=>by rw[hK];exact zbl aa hb1 hb);have HBM:Hid (∀k,Bd K (zK (zt m) k)):=Zh (fun k=>by rw[hK];exact zct (zbm aa hb1 hb) aa);have HPO:Hid (∀k,k<=n->0<zK (zt m) k):=Zh (fun k hk=>by rw[zaD h1 hp hk];exact ZV hp hk);have HNQ:Hid (∀i j,j<n->qW m i j=(2*Zj m i j+zK (zt m) (j+1)) / (2*zK (zt m) (j+1))):=Zh (fun i j hj=>zhE h1 hp hj)
 have HSI:Hid (∀i j,j<n->((2*((Zj m i j).natAbs:Int)<=zK (zt m) (j+1))↔QA (zf (ent m)) i j)):=Zh (fun i j hj=>zn8 h1 hp hj);have HLI:Hid (∀p,p+1<n->((3*(zK (zt m) (p+1)*zK (zt m) (p+1))<=4*(zK (zt m) (p+1-1)*zK (zt m) (p+1+1)+Zj m (p+1) (p+1-1)*Zj m (p+1) (p+1-1)))↔qF (zf (ent m)) p)):=Zh (fun p hpn=>zn9 h1 hp hs hpn);clear hn hb hp hs h1 hK;go_enter Tryz.func75,Tryz.ntmps75;go_wp2_with (first
  |(go_at_call 141;refine(HLE.out _ Zi).mono ?_;rintro e w1 ⟨BD,dD,rfl,hI1,-,-,hs1⟩;rw[HLL.out];have HI:=Zh hI1;clear hI1)
  |(go_at_call 74;refine(HID.out _).mono ?_;rintro e w2 ⟨g,hs,cz,rfl,hO,zsL,zs3,hs2⟩;rw[HIL.out]at zsL|-;have HO:=Zh hO;clear hO))
 have zum:Ext w w2:=Zi;have zxm:Ext w1 w2:=Zi;go_loopw [8,9,23] (fun _ _ i wr=>∃k:Nat,k<=n/\i= .int .i64 k/\Hid (∀r,r<k->QB (zf (ent m)) r)/\Hid (∀p,p+1<k->qF (zf (ent m)) p)/\Ext w2 wr) (fun _ _ i _=>n-(intOf i).toNat)
 case atStart=>exact⟨0,aa,rfl,Zh (fun r hr=>aa),Zh (fun p hp=>aa),Zi⟩
 case round=>
  obtain⟨k,hk,rfl,HFU,HLO,hxr⟩:=hrel;by_cases hlt:k<n
  ·go_wp2_with fail
   go_loopw [9] (fun s9 wr=>∃q:Nat,q<=k/\s9= .int .i64 ((q:Int)-1)/\Hid (∀x,q<=x->x<k->QA (zf (ent m)) k x)/\Ext w2 wr) (fun s9 _=>(intOf s9+1).toNat)
   case atStart=>exact⟨k,aa,rfl,Zh (fun x h1 h2=>aa),Zi⟩
   case round=>
    obtain⟨q,hq,rfl,HSD,hxq⟩:=hrel;have zti:Ext w wr:=zum.trans hxq;have zuZ:Ext w1 wr:=zxm.trans hxq
    cases q with
    |zero=>
     have HFK:Hid (∀r,r<k+1->QB (zf (ent m)) r):=Zh (fun r hr=>by
      by_cases e:r=k
      ·rw[e];exact fun x hx=>HSD.out x aa hx
      ·exact HFU.out r aa)
     by_cases hk0:k=0
     ·subst hk0;have zrD:Hid (∀p,p+1<0+1->qF (zf (ent m)) p):=Zh (fun p hp=>aa);go_wp2_with fail
      exact⟨⟨1,aa,rfl,HFK,zrD,hxq⟩,by simp[intOf]<;>omega⟩
     ·obtain⟨p,hpk⟩:∃p,k=p+1:=⟨k-1,aa⟩;have HLB:=Zh (fun W(e1:Ext wr W)=>HLV.out w1 W BD dD k hlt aa HI.out (zti.trans e1) (zuZ.trans e1));have hli:=HLI.out p aa;rw[<-hpk]at hli;have hkp:(k:Int)-1=(p:Int):=aa
      have hkw:IntKind.i64.wrap ((k:Int)-1)=(p:Int):=by rw[hkp];exact Iw
      have hpn:p<n:=aa
      have hgt:decide ((0:Int)<(k:Int))=true:=by simp;omega
      have zym:0<k:=aa
      have zyn:(0:Int)<(k:Int):=aa
      by_cases hlv:qF (zf (ent m)) p
      ·have hde:=decide_eq_true (hli.2 hlv);rw[hde]at HLB;have zrD:Hid (∀p',p'+1<k+1->qF (zf (ent m)) p'):=Zh (fun p' hp'=>by
        by_cases e:p'=p
        ·rw[e];exact hlv
        ·exact HLO.out p' aa)
       clear hli hde hlv hpk hkp hkw hk0;go_wp2_with (go_at_call 147;refine(HLB.out _ Zi).mono ?_;rintro e w6 ⟨rfl,hs6⟩)
       exact⟨⟨k+1,aa,by go_num,HFK,zrD,Zi⟩,by simp[intOf]<;>omega⟩
      ·have hde:=decide_eq_false (fun hh=>hlv (hli.1 hh));rw[hde]at HLB;have HAT:Hid (AtSwap (zf (ent m)) n p):=Zh ⟨aa,by rw[<-(aa:k+1=p+2)];exact HFK.out,fun t ht=>HLO.out t aa,hlv⟩;obtain⟨b2,c2,hp2,e1,e2,e3,e4,e5,e6⟩:=(HO.out.ext hxq).hdr (i:=k) (by rw[HIL.out];exact hlt);obtain⟨b3,c3,hp3,f1,f2,f3,f4,f5,f6⟩:=(HO.out.ext hxq).hdr (i:=p) (by rw[HIL.out];omega);have HSW:=Zh (fun W(e1:Ext wr W)=>((HO.out.ext hxq).ext e1).swap hp2 hp3 (by rw[HIL.out];exact hlt) (by rw[HIL.out];exact hpn))
       have HKP:=Zh hpk;have HC2:=Zh (And.intro e1 (And.intro e2 (And.intro f1 f2)));have hgl:=HO.out.glo;have zxn:w.heap.size<=w1.heap.size:=(Zi:Ext w w1).size;have hnw:New g w:=⟨aa⟩;have oG:Old g wr:=⟨e6⟩;have zyo:k≠p:=aa
       clear hp2 hp3 e1 e2 f1 f2 hli hde hlv hpk hk0;go_wp2_with (go_at_call 147;refine(HLB.out _ Zi).mono ?_;rintro e w6 ⟨rfl,hs6⟩)
       have r1:w6.cell? ⟨g,k,none⟩=some (.slice (some ⟨b2,0,none⟩) n c2):=(zk wr).trans HC2.out.1;have r2:w6.frozen? ⟨g,k,none⟩=false:=(ZY wr).trans HC2.out.2.1;have r3:w6.cell? ⟨g,p,none⟩=some (.slice (some ⟨b3,0,none⟩) n c3):=(zk wr).trans HC2.out.2.2.1;have r4:w6.frozen? ⟨g,p,none⟩=false:=(ZY wr).trans HC2.out.2.2.2;have r5:g<w6.heap.size:=(Zi:Old g w6).lt;go_region
       all_goals
        go_wp2_with fail
        go_ret2
        refine .inr (.inr ⟨p,some ⟨g,0,none⟩,cz,rfl,HAT.out,?_,Step.of _ _⟩);have hsw:=HSW.out w6 Zi;have zsy:=hsw.all;have e:=zoc (n:=n) (p:=p) (by have:=HKP.out;omega) (by rw[HKP.out];rfl) zsy;rw[e]at hsw;simp only[z8]at hsw;exact(hsw.ext Zi).mat
    |succ t=>
     rw[(aa:((t+1:Nat):Int)-1=(t:Int))];have HSB:=Zh (fun W(e1:Ext wr W)=>HSZ.out w1 W BD dD k t hlt aa HI.out (zti.trans e1) (zuZ.trans e1));by_cases hsz:2*((Zj m k t).natAbs:Int)<=zK (zt m) (t+1)
     ·have hde:decide (2*((Zj m k t).natAbs:Int)<=zK (zt m) (t+1))=true:=decide_eq_true hsz;rw[hde]at HSB;have zr8:Hid (∀x,t<=x->x<k->QA (zf (ent m)) k x):=Zh (fun x h1 h2=>by
       by_cases e:x=t
       ·rw[e];exact(HSI.out k t aa).1 hsz
       ·exact HSD.out x aa h2)
      clear hsz hde;go_wp2_with (go_at_call 142;refine(HSB.out _ Zi).mono ?_;rintro e w6 ⟨rfl,hs6⟩)
      exact⟨⟨t,aa,rfl,zr8,Zi⟩,by simp[intOf]<;>omega⟩
     ·have hde:decide (2*((Zj m k t).natAbs:Int)<=zK (zt m) (t+1))=false:=decide_eq_false hsz;rw[hde]at HSB;have htn:t<n:=aa
      have HAT:Hid (AtRed (zf (ent m)) n k t):=Zh ⟨hlt,aa,HFU.out,HLO.out,fun x h1 h2=>HSD.out x aa h2,fun hh=>hsz ((HSI.out k t htn).2 hh)⟩;have HLB:=Zh (fun W(e1:Ext wr W)=>HLA.out W k t hlt htn (zti.trans e1));have HMB:=Zh (fun W(e1:Ext wr W)=>HMI.out w1 W BD dD (t+1) aa HI.out (zuZ.trans e1));rw[(aa:((t+1:Nat):Int)=(t:Int)+1)]at HMB;have hbl:=HBL.out k t htn;have hbm:=HBM.out (t+1)
      have hpm:=HPO.out (t+1) aa;have hnq:=HNQ.out k t htn;generalize Zj m k t=L at*
      generalize zK (zt m) (t+1)=M at*
      have HQT:Hid (∀(W1 W2 W:World)(g1:Bool)B1 n1 c1(g2:Bool)B2 n2 c2,IntV W1 g1 B1 n1 c1 L->IntV W2 g2 B2 n2 c2 M->Ext W1 W->Ext W2 W->Cq 144 #[.agg #[.bool g1,.slice B1 n1 c1],.agg #[.bool g2,.slice B2 n2 c2]] W (zaB W (RatOf L M))):=Zh (fun W1 W2 W g1 B1 n1 c1 g2 B2 n2 c2 h1 h2 e1 e2=>zn2 h1 h2 (kk:=K) aa hbl hbm hpm);have HNE:Hid (∀(W1 W:World)(g1:Bool)B1 n1 c1(g2:Bool)B2 n2 c2 p q,IntV W1 g1 B1 n1 c1 p->IntV W1 g2 B2 n2 c2 q->RatOf L M p q->Ext W1 W->Cq 143 #[.agg #[.bool g1,.slice B1 n1 c1,.bool g2,.slice B2 n2 c2]] W (zz W (qW m k t))):=Zh (fun W1 W g1 B1 n1 c1 g2 B2 n2 c2 p q h1 h2 hF e1=>by
       have:=zn7 (w:=W) h1 h2 (kk:=K) aa hK2 (hbl.le hF.le1) (hbm.le hF.le2) hF.pos;have e:=hF.eq;rw[zd8 (c:=2*L+M) (d:=2*M) (by have:=hF.pos;omega) aa ae]at this;rwa [hnq])
      have hqb:Bd (K+2) (qW m k t):=by
       rw[hnq];refine Bd.div _ ?_;have h2:Bd (K+1) (2*L):=by
        have:=hbl.add hbl;rwa [(aa:L+L=2*L)]at this
       exact h2.add (hbm.mono aa)
      have HNG:Hid (∀(W1 W:World)(g1:Bool)B1 n1 c1,IntV W1 g1 B1 n1 c1 (qW m k t)->Ext W1 W->Cq 124 #[.agg #[.bool g1,.slice B1 n1 c1]] W (zz W (-qW m k t))):=Zh (fun W1 W g1 B1 n1 c1 h1 e1=>zdp h1 (by have:=h1.bd hqb aa;omega));obtain⟨b1,c1,hp1,d1,d2,d3,d4,d5,d6⟩:=(HO.out.ext hxq).hdr (i:=t) (by rw[HIL.out];exact htn);have HP1:=Zh hp1;have HX:=Zh (fun W hh=>(HO.out.ext hxq).hdrX hp1 (by rw[HIL.out];exact htn) W hh)
      have hlo:=(HO.out.ext hxq).lo_row hp1;have zxn:w.heap.size<=w1.heap.size:=(Zi:Ext w w1).size;have hnw:New b1 w:=⟨aa⟩;have HE:Hid (∀W,Ext wr W->∃s B k' d,W.cell? ⟨b1,k*2,none⟩=some (.bool s)/\W.cell? ⟨b1,k*2+1,none⟩=some (.slice B k' d)/\W.frozen? ⟨b1,k*2,none⟩=false/\W.frozen? ⟨b1,k*2+1,none⟩=false/\b1<W.heap.size):=Zh (fun W hh=>by
       obtain⟨s,B,k',d,a1,a2,-,a4,a5⟩:=((HO.out.ext hxq).ext hh).entry (i:=t) HP1.out (by rw[HIL.out];exact htn) hlt;exact⟨s,B,k',d,a1,a2,a4,a5,Nat.lt_of_lt_of_le d5 hh.size⟩)
      have hwt:IntKind.i64.wrap ((t:Int)+1)=(t:Int)+1:=Iw;clear hsz hde hp1 hbl hbm hpm hnq hqb d1 d2;generalize hNQ:qW m k t=NQ at*
      have HNV:=Zh hNQ;clear hNQ;go_wp2_with (go_at_call 142;refine(HSB.out _ Zi).mono ?_;rintro e w6 ⟨rfl,hs6⟩)
      go_region_held3 (fun w'=>w'.cell? ⟨g,t,none⟩=some (.slice (some ⟨b1,0,none⟩) n c1))
       (first|exact(HX.out _ Zi).1|exact(HX.out _ Zi).2 _ _ _ _)
       (first
        |(go_at_call 145;refine(HLB.out _ Zi).mono ?_;rintro e wa ⟨ga,Ba,ka,da,rfl,hza,hsa⟩)
        |(go_at_call 146;refine(HMB.out _ Zi).mono ?_;rintro e wb ⟨gb,Bb,kb,db,rfl,hzb,hsb⟩)
        |(go_at_call 144;refine(HQT.out _ _ _ _ _ _ _ _ _ _ _ hza hzb Zi Zi).mono ?_;rintro e wd ⟨gc,Bc,kc,dc,gd,Bd',kd,dd',p,q,rfl,hzc,hzd,hF,hsd⟩)
        |(go_at_call 143;refine(HNE.out _ _ _ _ _ _ _ _ _ _ _ _ hzc hzd hF Zi).mono ?_;rintro e we ⟨ge,Be,ke,de,rfl,hze,hse⟩)
        |(go_at_call 124;refine(HNG.out _ _ _ _ _ _ hze Zi).mono ?_;rintro e wf ⟨gf,Bf,kf,df,rfl,hzf,hsf⟩;obtain⟨s6,B6,k6,n6,f1,f2,f3,f4,f5⟩:=HE.out wf Zi))
      go_wp2_with fail
      go_ret2
      refine .inr (.inl ⟨k,t,some ⟨g,0,none⟩,cz,rfl,HAT.out,?_,?_⟩)
      ·have hO5:=((HO.out.ext hxq).ext (Zi:Ext wr wf)).set HP1.out (by rw[HIL.out];exact htn) hlt hzf;rw[zoa hlt htn,<-HNV.out]at hO5;exact hO5.mat
      ·exact Step.of _ _
  ·obtain rfl:k=n:=aa
   go_wp2_with fail
   go_ret2
   exact .inl ⟨rfl,HFU.out,HLO.out,(zum.trans hxr).toStep⟩
end
section
open Go.RowKit
set_option maxRecDepth 10000 in
theorem zof(h:MatV w0 A m)(h1:m.length=n)(h3:1<=n)(h4:n<=16)(hn:AllLen m n)(h64:∀i j,-9223372036854775808<=ent m i j/\ent m i j<=9223372036854775807)[hx:Ext w0 w]:
  Cq 27 #[.slice A n c] w (zkG w m true):=by
 have h0:=h.ext hx;have hsh:=fun W(hh:Ext w W)=>zck (w:=W) (c:=c) h0 n aa aa h3 h4 hn
 rw[h1]at hsh;have HSH:=Zh hsh;have hte:=Jl m n hn;rw[h1]at hte;have HT:=Zh hte;have hmk:=ZH (P:=Tryz.prog) Tryz.underlying25 qe aa (n:Int) aa aa;have zs0:=ZH (P:=Tryz.prog) Tryz.underlying34 qb aa (n:Int) aa aa;obtain⟨F,hF⟩:∃F:Nat->Nat->Int,F=fun i j=>(m.getD i []).getD j 0:=⟨_,rfl⟩
 rw[<-hF]at HT;have HF:Hid (∀i j,ent m i j=F i j):=Zh (fun i j=>by rw[hF];rfl);have HA:=Zh hn;have HL:=Zh h1;have H64:=Zh h64;clear hsh hte hF hn h1 h64;go_enter Tryz.func27,Tryz.ntmps27;go_wp2_with (go_at_call 59;refine(HSH.out _ Zi).mono ?_;rintro e w1 ⟨rfl,hs1⟩)
 have ztp:Ext w w1:=Zi;go_loopw [8,9,10,11,24] (fun _ _ _ _ i wr=>∃k:Nat,k<=n/\i= .int .i64 k/\Hid (Heads1 wr w1.heap.size F n n k)/\Ext w1 wr) (fun _ _ _ _ i _=>n-(intOf i).toNat)
 case atStart=>exact⟨0,aa,rfl,Zh (by simpa[Value.cells] using Heads1.made w1 F n n),Zi⟩
 case round=>
  obtain⟨k,hk,rfl,HH,hxr⟩:=hrel;by_cases hlt:k<n
  ·obtain⟨hd,v1,v2,v3,v4⟩:=HH.out;have hc1:=v1.cell (v4 k Zr hlt);have hc2:=v1.frozen k;have hsz:=v1.lt;obtain⟨wo,rfl⟩:∃wo:World,wo=wr:=⟨_,rfl⟩;have V1:=Zh v1;have V2:=Zh v2;have V3:=Zh v3;have V4:=Zh v4;have hkl:k<hd.length:=aa
   have hv5:=v1.set k (.slice (some ⟨wo.heap.size,0,none⟩) n n);have hcs:(wo.setCell ⟨w1.heap.size,k,none⟩ (.slice (some ⟨wo.heap.size,0,none⟩) n n)).cell? ⟨w1.heap.size,k,none⟩=some (.slice (some ⟨wo.heap.size,0,none⟩) n n):=hv5.cell (by rw[List.getElem?_set_self hkl]);clear v1 v2 v3 v4 hv5;go_wp2_with fail
   go_loopw [9,10,11,37] (fun _ _ _ j wr=>∃q:Nat,q<=n/\j= .int .i64 q/\Hid (Grow w1.heap.size 34 wo wr)/\Hid (VRow wr w1.heap.size 34 (hd.set k (.slice (some ⟨wo.heap.size,0,none⟩) n n)))/\Hid (Cells1 wr wo.heap.size (F k) n q)/\Ext w1 wr) (fun _ _ _ j _=>n-(intOf j).toNat)
   case atStart=>
    refine⟨0,aa,rfl,Zh ?_,Zh ?_,Zh ?_,?_⟩
    ·exact((Grow.refl _ _ _).setOld (p:=⟨w1.heap.size,k,none⟩) V1.out Zr rfl _).alloc hxr.size _
    ·exact(V1.out.set _ _).ext Zi
    ·have:=Cells1.made (wo.setCell ⟨w1.heap.size,k,none⟩ (.slice (some ⟨wo.heap.size,0,none⟩) n n)) (F k) n;rw[ZE,Nat.mul_one]at this;exact this
    ·exact Zi
   case round=>
    obtain⟨q,hq,rfl,HG,HV,HC,hxq⟩:=hrel;have zti:Ext w wr:=ztp.trans hxq;by_cases zsz:q<n
    ·obtain⟨b2,o2,b3,o3,c2,g3,B3,n3,c3,rfl,e1,e2,e3,hz3,hb2,hb3,-,-⟩:=(h0.ext zti).entry HA.out (i:=k) (j:=q) (by rw[HL.out];exact hlt) zsz;have zsv:=H64.out k q;have HIN:=Zh (fun W(hh:Ext wr W)=>zk9 (w:=W) hz3 zsv.1 zsv.2);rw[HF.out k q]at HIN zsv;have hne:w1.heap.size≠wo.heap.size:=aa
     have HNE:=Zh hne;obtain⟨hf1,hf2⟩:=zsv;clear hz3 hne;generalize hFq:F k q=z at*
     have HFQ:=Zh hFq;clear hFq;go_wp2_with (go_at_call 60;refine(HIN.out _ Zi).mono ?_;rintro e w5 ⟨rfl,hs5⟩;have r1:w5.cell? ⟨w1.heap.size,k,none⟩=some (.slice (some ⟨wo.heap.size,0,none⟩) n n):=(HV.out.ext (Zi:Ext wr w5)).cell (by rw[List.getElem?_set_self hkl]);obtain⟨d1,d2,d3⟩:=(HC.out.ext (Zi:Ext wr w5)).cells zsz)
     refine⟨⟨q+1,aa,by go_num,Zh ?_,Zh ?_,Zh ?_,?_⟩,by simp[intOf]<;>omega⟩
     ·exact(HG.out.trans (Zi:Ext wr w5) hxr.size).setNew (p:=⟨wo.heap.size,q,none⟩) Zr hxr.size _
     ·exact(HV.out.ext (Zi:Ext wr w5)).far (p:=⟨wo.heap.size,q,none⟩) HNE.out _
     ·have:=(HC.out.ext (Zi:Ext wr w5)).put zsz;rwa [HFQ.out]at this
     ·exact(Zi:Ext w1 w5).setCell (p:=⟨wo.heap.size,q,none⟩) hxr.size _
    ·obtain rfl:q=n:=aa
     have ztr:=HC.out.full;go_wp2_with fail
     refine⟨⟨k+1,aa,by go_num,Zh ⟨_,HV.out,by rw[List.length_set];exact V2.out,fun i hi=>?_,fun i hi1 hi2=>?_⟩,hxq⟩,by simp[intOf]<;>omega⟩
     ·rcases Zl i k with h|h
      ·obtain⟨B,b1,b2⟩:=V3.out i h;exact⟨B,by rw[List.getElem?_set_ne aa];exact b1,b2.grow HG.out ac⟩
      ·obtain rfl:i=k:=aa
       exact⟨_,by rw[List.getElem?_set_self hkl],ztr⟩
     ·rw[List.getElem?_set_ne aa];exact V4.out i aa hi2
  ·obtain rfl:k=n:=aa
   go_wp2_with fail
   go_ret2
   obtain⟨hd,v1,v2,v3,v4⟩:=HH.out;rw[<-HT.out];refine⟨_,k,by rw[zr];rfl,⟨hd,by rw[v2,zr],v1.arr,fun i r hr=>?_⟩,by rw[zr];omega,aa,(ztp.trans hxr).toStep⟩;have hi:i<k:=by
    rcases Zl i k with hi|hi
    ·exact hi
    ·rw[List.getElem?_eq_none (by rw[zr];exact hi)]at hr;cases hr
   rw[QT _ _ _ _ hi]at hr;injection hr with hr
   subst hr;obtain⟨B,b1,b2⟩:=v3 i hi;exact⟨B,k,by simpa using b1,b2,af,aa⟩
end
section
open Go.RowKit
open La
theorem zcv{k1 k2:Nat}{a b:List (List Int)}(h4:n<=16)(hA:∀i j,Bd k1 (ent a i j))(hB:∀i j,Bd k2 (ent b i j))(i j:Nat):Bd (k1+k2+16) (ent (ZN n a b) i j):=by
 by_cases h:i<n/\j<n
 ·unfold ZN;rw[jp _ _ _ _ _ h.1 h.2];exact Bd.mono (zea (k:=k1+k2) (n:=n) (fun x _=>(hA i x).mul (hB x j)) n Zr) aa
 ·have:ent (ZN n a b) i j=0:=JC _ _ _ _ _ h;rw[this];exact Bd.zero _
theorem zog(hl:m.length=n)(h8:n<=8)(hp:Pos (zf (ent m)) n)(hj:j<n)(hb1:1<=b)(hb:BdM b m):Bd (256*(b+1)+2) (qW m i j):=by
 rw[zhE hl hp hj];have hbl:Bd (256*(b+1)) (Zj m i j):=zbl aa hb1 hb;have hbm:Bd (256*(b+1)) (zK (zt m) (j+1)):=zct (zbm aa hb1 hb) aa;refine Bd.div _ ?_;have h2:Bd (256*(b+1)+1) (2*Zj m i j):=by
  have:=hbl.add hbl;rwa [(aa:Zj m i j+Zj m i j=2*Zj m i j)]at this
 exact h2.add (hbm.mono aa)
theorem zoh(hk:1<=k)(hq:Bd k q):BdM k (qk n i j q):=BdM.tab fun x y _ _=>by
 split
 ·exact hq.neg
 ·split
  ·exact Bd.one hk
  ·exact Bd.zero _
theorem zoi(hk:1<=k):BdM k (qu n p):=BdM.tab fun x y _ _=>by
 split
 ·exact Bd.one hk
 ·exact Bd.zero _
theorem zoj(hk:1<=k):BdM k (Q7 n):=BdM.tab fun x y _ _=>by
 split
 ·exact Bd.one hk
 ·exact Bd.zero _
theorem Gm.val{a:List (List Int)}(g:Gm n a):j8 a:=by
 refine⟨fun i hi j hj=>g.sym i j (by have:=g.len;omega) (by have:=g.len;omega),?_⟩;exact zgL.2 (by rw[g.len];exact g.pos)
theorem Gm.detF{a:List (List Int)}(g:Gm n a):detF a<=10000:=by
 rw[zgK (by have:=g.len;have:=g.n1;omega) (fun l hl=>by have:=QI g.pos (k:=l) (by have:=g.len;omega);omega),g.len];exact g.det
def zbo(n:Nat):Nat:=q9 n (jo n) 0 0 0
theorem zok(h:n<=4):zbo n<=192080:=by
 unfold zbo q9 jo;simp only[Nat.sub_zero];have h1:n*n<=16:=by have:=Nat.mul_le_mul h h;omega
 have h2:n*(n+1)<=20:=by have:=Nat.mul_le_mul h ((aa:n+1<=5));omega
 have h3:3*(200*n*n+1)<=9603:=by rw[Nat.mul_assoc];omega
 have h4:=Nat.mul_le_mul h3 h2;omega
def zol(w:World)(n:Nat)(a:List (List Int))(e:Ending)(w':World):Prop:=∃hh A1 c1 A2 c2,e= .returned (.tuple #[.slice A1 n c1,.slice A2 n c2,.int .i64 0])/\LLLed hh/\hh.length=n/\Rel n a hh/\Mat64 w' A1 hh/\n<=c1/\c1<=9223372036854775807/\Step w w'
theorem zhF{a:List (List Int)}(h:MatV w0 A a)(g:Gm n a)(h4:n<=4)[hx:Ext w0 w]:
  Cq 35 #[.slice A n c] w (zol w n a):=by
 have h0:=h.ext hx;have hn1:=g.n1;have HV:=Zh (fun W(e:Ext w W)=>zhB (w:=W) (c:=c) true ⟨fun _=>g.val,fun _=>rfl⟩ h0 g.len g.n1 g.n8 g.all g.bd aa aa);have HSM:=Zh (fun W(e:Ext w W)=>znY (w:=W) (c:=c) h0 g.len g.n1 g.n8 g.all g.bd aa aa);rw[show decide (detF a<=10000)=true from decide_eq_true g.detF]at HSM;have HCO:=Zh (fun W(e:Ext w W)=>zhn (w:=W) (c:=c) h0 n n g.len aa g.n1 aa g.all (fun i j=>⟨199,aa,g.bd i j⟩))
 have HID:=Zh (fun(W:World)=>zhl (w:=W) n hn1 aa);have HST:Hid (LS n a a (jo n) 0 0 0):=Zh g.start;have HAL:=Zh g.len;have HIL:Hid ((Q7 n).length=n):=Zh (zr _ _ _);have HR0:=Zh (zok h4);clear g;go_enter Tryz.func35,Tryz.ntmps35;go_wp2_with (first
  |(go_at_call 71;refine(HV.out _ Zi).mono ?_;rintro e w1 ⟨v,rfl,hv,-,-,hs1⟩;obtain rfl:v=0:=hv.2 rfl;clear hv)
  |(go_at_call 72;refine(HSM.out _ Zi).mono ?_;rintro e w2 ⟨rfl,hs2⟩)
  |(go_at_call 73;refine(HCO.out _ Zi).mono ?_;rintro e w3 ⟨g3,zvH,c3,rfl,hO3,-,-,hs3⟩;rw[HAL.out];have HM3:=Zh hO3.mat;clear hO3)
  |(go_at_call 74;refine(HID.out _).mono ?_;rintro e w4 ⟨g4,zvL,c4,rfl,hO4,-,-,hs4⟩;rw[HIL.out];have HM4:=Zh hO4.mat;clear hO4))
 go_loopg [6,7,9,10] (zbo n) (fun gk s6 s7 _ _ wr=>∃(hh t:List (List Int)) (s i c Tb:Nat) (Ah At:Option Addr) (ch ct:Nat),s6= .slice Ah n ch/\s7= .slice At n ct/\Hid (MatV wr Ah hh)/\Hid (MatV wr At t)/\Hid (LS n a hh (jo n) s i c)/\Hid (gk=q9 n (jo n) s i c)/\Hid (t.length=n/\AllLen t n/\BdM Tb t)/\Hid (Tb<=(zbo n-gk)*1024600+1)/\gk<=zbo n/\Ext w wr)
 case atStart=>exact⟨a,Q7 n,0,0,0,1,_,_,_,_,rfl,rfl,Zh (HM3.out.ext Zi),HM4,HST,Zh rfl,Zh ⟨HIL.out,Qa _ _ _,zoj aa⟩,Zh aa,Zr,Zi⟩
 case round=>
  obtain⟨hh,t,s,i,c',Tb,Ah,At,ch,ct,rfl,rfl,HH,HT,HLS,HGK,HTB,HTL,zyp,hxr⟩:=hrel;have HSP:=Zh (fun W(e:Ext wr W)=>zoe (w:=W) (c:=ch) (b:=4001) HH.out HLS.out.len hn1 aa HLS.out.all HLS.out.bd aa aa HLS.out.ll.j.pos HLS.out.ll.j.sym);go_wp2_with fail
  refine(HSP.out _ Zi).mono ?_;rintro e w5 hst;rcases hst with ⟨rfl,zun,zvR,hs5⟩|⟨i',j',A5,c5,rfl,hat,hM5,hs5⟩|⟨p',A5,c5,rfl,hat,hM5,hs5⟩
  ·have HLD:=Zh (HLS.out.done zun zvR);have HTI:=Zh (fun W(e:Ext wr W)=>zof (w:=W) (c:=ch) HH.out HLS.out.len hn1 aa HLS.out.all (fun x y=>by
    by_cases hxy:x<hh.length/\y<hh.length
    ·have:=HLD.out.entry hxy.1 hxy.2;omega
    ·rw[qL HLD.out.all aa];omega))
   have HHL:=Zh HLS.out.len;clear zun zvR;go_wp2_with (go_at_call 27;refine(HTI.out _ Zi).mono ?_;rintro e w6 ⟨A6,c6,rfl,hM6,zul,zuW,hs6⟩;rw[HHL.out]at zul|-)
   go_ret3
   exact⟨hh,A6,c6,At,ct,rfl,HLD.out,HHL.out,HLS.out.rel,hM6,zul,zuW,Step.of _ _⟩
  ·obtain⟨zt4,hrd⟩:=HLS.out.red hat;have hub:BdM 1024516 (qk n i' j' (qW hh i' j')):=zoh aa (by have:=zog (i:=i') (j:=j') HLS.out.len aa HLS.out.ll.j.pos (by have:=hat.hi;have:=hat.hj;omega) aa HLS.out.bd;exact this.mono aa);have hul:(qk n i' j' (qW hh i' j')).length=n:=zr _ _ _;have hua:AllLen (qk n i' j' (qW hh i' j')) n:=Qa _ _ _;generalize qk n i' j' (qW hh i' j')=u at*
   have hgl:=HGK.out;rw[<-hgl]at hrd;have hr0:=HR0.out;have htl:=HTL.out;have HCG:=Zh (fun W(e1:Ext wr W)(e2:Ext w5 W)=>zec (w:=W) (c:=ch) (d:=c5) (k:=1024516) HH.out hM5 HLS.out.len hul hn1 aa HLS.out.all hua aa (fun x y=>(HLS.out.bd x y).mono aa) hub);have HPR:=Zh (fun W(e1:Ext wr W)(e2:Ext w5 W)=>zcn (w:=W) (c:=ct) (d:=c5) (k:=Tb+1024516) HT.out hM5 HTB.out.1 hul hn1 aa HTB.out.2.1 hua aa (fun x y=>(HTB.out.2.2 x y).mono aa) (fun x y=>(hub x y).mono aa))
   have zrw:Hid ((ZN n t u).length=n/\AllLen (ZN n t u) n/\BdM (Tb+1024516+16) (ZN n t u)):=Zh ⟨zr _ _ _,Qa _ _ _,zcv aa HTB.out.2.2 hub⟩;have hcl:(Zb n hh u).length=n:=zr _ _ _;have HCL:=Zh hcl;have zrE:=Zh zt4;have HRD:=Zh hrd;clear zt4 hub hul hua hM5 hat hcl hgl;go_wp2_with (first
    |(go_at_call 25;refine(HCG.out _ Zi Zi).mono ?_;rintro e w6 ⟨g6,zui,c6,rfl,hO6,-,-,hs6⟩;rw[HCL.out];have HM6:=Zh hO6.mat;clear hO6)
    |(go_at_call 28;refine(HPR.out _ Zi Zi).mono ?_;rintro e w7 ⟨g7,zxo,c7,rfl,hO7,-,-,hs7⟩;rw[zrw.out.1];have HM7:=Zh hO7.mat;clear hO7))
   go_roundg (q9 n (jo n) s i' (i'-j'))
   case measure=>exact HRD.out
   case rel=>exact⟨Zb n hh u,ZN n t u,s,i',i'-j',Tb+1024516+16,_,_,_,_,rfl,rfl,Zh (HM6.out.ext Zi),HM7,zrE,Zh rfl,zrw,Zh (by have:=HRD.out;omega),by have:=HRD.out;omega,Zi⟩
  ·obtain⟨zt4,hrd⟩:=HLS.out.swap hat;have hub:BdM 1024516 (qu n p'):=zoi aa;have hul:(qu n p').length=n:=zr _ _ _;have hua:AllLen (qu n p') n:=Qa _ _ _;generalize qu n p'=u at*
   have hgl:=HGK.out;rw[<-hgl]at hrd;have hr0:=HR0.out;have htl:=HTL.out;have HCG:=Zh (fun W(e1:Ext wr W)(e2:Ext w5 W)=>zec (w:=W) (c:=ch) (d:=c5) (k:=1024516) HH.out hM5 HLS.out.len hul hn1 aa HLS.out.all hua aa (fun x y=>(HLS.out.bd x y).mono aa) hub);have HPR:=Zh (fun W(e1:Ext wr W)(e2:Ext w5 W)=>zcn (w:=W) (c:=ct) (d:=c5) (k:=Tb+1024516) HT.out hM5 HTB.out.1 hul hn1 aa HTB.out.2.1 hua aa (fun x y=>(HTB.out.2.2 x y).mono aa) (fun x y=>(hub x y).mono aa))
   have zrw:Hid ((ZN n t u).length=n/\AllLen (ZN n t u) n/\BdM (Tb+1024516+16) (ZN n t u)):=Zh ⟨zr _ _ _,Qa _ _ _,zcv aa HTB.out.2.2 hub⟩;have hcl:(Zb n hh u).length=n:=zr _ _ _;have HCL:=Zh hcl;have zrE:=Zh zt4;have HRD:=Zh hrd;clear zt4 hub hul hua hM5 hat hcl hgl;go_wp2_with (first
    |(go_at_call 25;refine(HCG.out _ Zi Zi).mono ?_;rintro e w6 ⟨g6,zui,c6,rfl,hO6,-,-,hs6⟩;rw[HCL.out];have HM6:=Zh hO6.mat;clear hO6)
    |(go_at_call 28;refine(HPR.out _ Zi Zi).mono ?_;rintro e w7 ⟨g7,zxo,c7,rfl,hO7,-,-,hs7⟩;rw[zrw.out.1];have HM7:=Zh hO7.mat;clear hO7))
   go_roundg (q9 n (jo n) (s+1) 0 0)
   case measure=>exact HRD.out
   case rel=>exact⟨Zb n hh u,ZN n t u,s+1,0,0,Tb+1024516+16,_,_,_,_,rfl,rfl,Zh (HM6.out.ext Zi),HM7,zrE,Zh rfl,zrw,Zh (by have:=HRD.out;omega),by have:=HRD.out;omega,Zi⟩
end
end Go.Proofs.YtgoaelchibpffaaGreat

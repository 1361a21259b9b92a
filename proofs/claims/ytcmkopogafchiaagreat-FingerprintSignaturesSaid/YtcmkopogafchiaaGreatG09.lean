import Derived.Test.YtcmkopogafchiaaGreatG08
set_option maxHeartbeats 8000000
set_option linter.unusedVariables false
set_option linter.unusedSimpArgs false
namespace Go.Proofs.YtcmkopogafchiaaGreat
open Go.RowKit
open List (length_append append_assoc nil_append drop_eq_nil_iff)
variable {exact:Bool} {za:Int} {L l m:List (List Int)} {st tail:List Int} {vs:List Value} {c d eb k lc mc n sz:Nat} {A lA lB mA:Option Addr} {W w w0 w1:World}
def Jj(s eb:Nat):Array Value:=#[.pointer (some ⟨s,0,none⟩),.pointer (some ⟨s+2,0,none⟩),.pointer (some ⟨s+4,0,none⟩),.pointer (some ⟨eb,0,none⟩),.pointer (some ⟨s+3,0,none⟩)]
structure SMem(w1 W:World)(n:Nat)(mA lA:Option Addr)(mc lc eb:Nat)(exact:Bool)(lB:Option Addr)(c:Nat)(l:List (List Int))(vs:List Value):Prop where
 ext:Ext w1 W
 fb:W.heap[w1.heap.size]? =some (.cells #[.slice mA (n+1) mc,.slice lA n lc] 201 (0,0))
 xb:W.heap[w1.heap.size+2]? =some (.cells #[.slice (some ⟨w1.heap.size+1,0,none⟩) n n] 28 (0,0))
 lb:W.heap[w1.heap.size+3]? =some (.cells #[.slice lB l.length c] 25 (0,0))
 sb:W.heap[w1.heap.size+4]? =some (.cells #[.func (.func 155) #[] (Jj w1.heap.size eb)] 203 (0,0))
 ebl:eb<w1.heap.size
 ec:w1.cell? ⟨eb,0,none⟩=some (.bool exact)
 ls:LOwn W (w1.heap.size+5) lB c l vs
 sz:w1.heap.size+5<=W.heap.size
theorem SMem.setX(h:SMem w1 W n mA lA mc lc eb exact lB c l vs)(i:Nat)(u:Value):SMem w1 (W.setCell ⟨w1.heap.size+1,i,none⟩ u) n mA lA mc lc eb exact lB c l vs where
 ext:=h.ext.setCell (p:=⟨w1.heap.size+1,i,none⟩) (Nat.le_succ _) u
 fb:=qd h.fb (show w1.heap.size≠w1.heap.size+1 by omega) u
 xb:=qd h.xb (show w1.heap.size+2≠w1.heap.size+1 by omega) u
 lb:=qd h.lb (show w1.heap.size+3≠w1.heap.size+1 by omega) u
 sb:=qd h.sb (show w1.heap.size+4≠w1.heap.size+1 by omega) u
 ebl:=h.ebl
 ec:=h.ec
 ls:=h.ls.set (p:=⟨w1.heap.size+1,i,none⟩) (show w1.heap.size+1<w1.heap.size+5 by omega) u
 sz:=by rw[qH];exact h.sz
theorem XRow.put0(h:XRow w sz n k tail)(x:Int):XRow (w.setCell ⟨sz,k,none⟩ (.int .i64 x)) sz n k tail:=by
 obtain⟨xs,h1,h2,h3⟩:=h;exact⟨_,h1.set k x,by simp[h2],by rw[List.drop_set_of_lt (by omega),h3]⟩
theorem XRow.full(h:XRow w sz n k tail)(hk:k=0)(hn:k<n)(x:Int):Row (w.setCell ⟨sz,k,none⟩ (.int .i64 x)) sz 2 .i64 (x::tail)/\(x::tail).length=n:=by
 subst hk;obtain⟨xs,h1,h2,h3⟩:=h
 cases xs with
 |nil=>simp at h2;omega
 |cons y ys=>
  simp at h3;subst h3;exact⟨h1.set 0 x,by simpa using h2⟩
theorem zlQ{b:Nat}{x u:Value}{T:TypeId}(h:w.heap[b]? =some (.cells #[x] T (0,0))):(w.setCell ⟨b,0,none⟩ u).heap[b]? =some (.cells #[u] T (0,0)):=by
 rw[Zt h];rfl
theorem SMem.snoc{W3 w4:World}(h:SMem w1 W n mA lA mc lc eb exact lB c l vs)(hx:Ext W W3){A4 B:Option Addr}{d4:Nat}{r:List Int}(hg:Grow (w1.heap.size+5) 28 W3 w4)(ho:Own w4 (w1.heap.size+5) 28 1 A4 (l.length+1) d4 (vs++[.slice B r.length d]))(hr:ArrX (w1.heap.size+5) W3 B 2 (r.map (Value.int .i64)))(h1:r.length<=d)(h2:d<=9223372036854775807):
  SMem w1 (w4.setCell ⟨w1.heap.size+3,0,none⟩ (.slice A4 (l.length+1) d4)) n mA lA mc lc eb exact A4 d4 (l++[r]) (vs++[.slice B r.length d]):=by
 have hk:∀b,b<w1.heap.size+5->∀o,W.heap[b]? =some o->w4.heap[b]? =some o:=fun b hb o ho=>(hg.below.block b hb).trans (zj hx ho)
 refine⟨?_,?_,?_,?_,?_,h.ebl,h.ec,?_,?_⟩
 ·exact(hg.ext (h.ext.trans hx) (by omega)).setCell (p:=⟨w1.heap.size+3,0,none⟩) (by simp) _
 ·exact qd (hk _ (by omega) _ h.fb) (show w1.heap.size≠w1.heap.size+3 by omega) _
 ·exact qd (hk _ (by omega) _ h.xb) (show w1.heap.size+2≠w1.heap.size+3 by omega) _
 ·rw[length_append];exact zlQ (hk _ (by omega) _ h.lb)
 ·exact qd (hk _ (by omega) _ h.sb) (show w1.heap.size+4≠w1.heap.size+3 by omega) _
 ·exact(h.ls.snoc hx hg ho hr h1 h2).set (p:=⟨w1.heap.size+3,0,none⟩) (show w1.heap.size+3<w1.heap.size+5 by omega) _
 ·rw[qH];have:=h.sz;have:=hx.size;have:=hg.below.size;omega
def zlR(w1:World)(n:Nat)(mA lA:Option Addr)(mc lc eb:Nat)(exact:Bool)(l:List (List Int))(k:Nat)(tail:List Int)(e:Ending)(W':World):Prop:=
 e= .returned (.tuple #[])/\XRow W' (w1.heap.size+1) n k tail/\∃lB c vs,SMem w1 W' n mA lA mc lc eb exact lB c l vs
theorem zgi:qG 155:=JF Tryz.func155 (by kernel_rfl) (by kernel_rfl)
theorem SMem.took{wS W5 w6:World}{ln s5:Nat}{t t':List (List Int)}{x:Int}{A6 B5:Option Addr}{d5 d6:Nat}
  (hM:SMem w1 wS n mA lA mc lc eb exact lB c (l++t) vs) (hX:XRow wS (w1.heap.size+1) n k tail) (hs:Ext wS W5) (hO:Own W5 s5 2 1 B5 (x::tail).length d5 ((x::tail).map (Value.int .i64))) (hs5:w1.heap.size+5<=s5) (hn:(x::tail).length=n) (hl:(l++t).length=ln)
  (ho:Own w6 (w1.heap.size+5) 28 1 A6 (ln+1) d6 (vs++[.slice B5 n d5])) (hg:Grow (w1.heap.size+5) 28 (W5.alloc (.cells #[.slice B5 n d5] 28)) w6) (ht:t'=t++[x::tail]):
  XRow (w6.setCell ⟨w1.heap.size+3,0,none⟩ (.slice A6 (ln+1) d6)) (w1.heap.size+1) n k tail/\SMem w1 (w6.setCell ⟨w1.heap.size+3,0,none⟩ (.slice A6 (ln+1) d6)) n mA lA mc lc eb exact A6 d6 (l++t') (vs++[.slice B5 n d5]):=by
 subst hl ht;have hx:Ext wS (W5.alloc (.cells #[.slice B5 n d5] 28)):=Ext.alloc _ _ _;have hc:=hO.cap;constructor
 ·refine hX.keep ?_;rw[Below.heap_setCell _ _ _ _ (show w1.heap.size+1≠w1.heap.size+3 by omega),hg.below.block _ (by omega)];exact hx.below.block _ (by have:=hM.sz;omega)
 ·have:=hM.snoc hx (r:=x::tail) (B:=B5) (d:=d5) hg (by rw[hn];exact ho) ((hO.arrX.lower hs5).ext (Ext.alloc _ _ _)) hc.1 hc.2;rw[<-append_assoc];rw[hn]at this;exact this
set_option maxRecDepth 100000 in
theorem zlS{D:List Int}(hD:Ints w1 mA 2 .i64 D)(hL:Mat64 w1 lA L)(hmc:n+1<=mc)(zxH:mc<=9223372036854775807)(hlc:n<=lc)(zxI:lc<=9223372036854775807)(hN:NumOK D L n za)(k:Nat):
  ∀(rest:Int)(zero:Bool)(tail:List Int)(W:World)(lB:Option Addr)(c:Nat)(l:List (List Int))(vs:List Value),LevOK D n za k rest tail->(zero=true->zZ tail=0)->XRow W (w1.heap.size+1) n k tail->SMem w1 W n mA lA mc lc eb exact lB c l vs->(l++Zw D L exact k rest zero tail).length<=1073741824->
   Cq 155 (#[.int .i64 k,.int .i64 rest,.bool zero]++Jj w1.heap.size eb) W (zlR w1 n mA lA mc lc eb exact (l++Zw D L exact k rest zero tail) k tail):=by
 induction k using Nat.strongRecOn with
 |ind k ih=>
  intro rest zero tail W lB c l vs hLv hz hX hM zrT;have hkn:=hLv.kn;have hn8:=hN.n8;obtain⟨f1,f2,-,-,f5⟩:=zP hM.fb;have xb1:W.cell? ⟨w1.heap.size+2,0,none⟩=some (.slice (some ⟨w1.heap.size+1,0,none⟩) n n):=by simp[World.cell?,hM.xb]
  have sb1:W.cell? ⟨w1.heap.size+4,0,none⟩=some (.func (.func 155) #[] (Jj w1.heap.size eb)):=by simp[World.cell?,hM.sb]
  obtain⟨xs,zrU,hxl,hxd⟩:=id hX;have hdl:=hN.dl;have hll:=hN.ll;have hd0:D[k]? =some (vD D k):=by unfold vD;simp[show k<D.length by omega]
  have zu4:D[k+1]? =some (vD D (k+1)):=by unfold vD;simp[show k+1<D.length by omega]
  obtain⟨bm,om,-,rfl,-⟩:=hD.at_ (i:=k) (by omega);obtain⟨m3,m4⟩:=jR (hD.ext hM.ext) hd0;obtain⟨m1,-⟩:=jR (hD.ext hM.ext) zu4;obtain⟨bl,ol,B,cl,rfl,l3,l5,l1,l2,l4⟩:=(hL.ext hM.ext).at_ (i:=k) (r:=L.getD k []) (by simp[show k<L.length by omega]);have hrl:=hN.row k hkn;obtain⟨lam,zs1⟩:=Xz (L.getD k []);rw[hrl]at l1 l3;rw[<-zs1]at hrl l5;have HL5:=Zh l5;have zqR:=Zh zs1;have HRL:=Zh hrl
  have hsq:=zbU hN hLv;have hR:=jS hN hLv;have hd1:=hN.d1 (k+1) (by omega);have hd2:=hN.d2 (k+1) (by omega);obtain⟨sqn,zs2⟩:=Xz ((ZJ D k rest).toNat);have ztv:vD D k*rest=(sqn:Int):=by have:=hsq.1;rw[zs2];unfold ZJ at this|-;omega
  have zv9:sqn<4611686018427387904:=by have:=hsq.2;omega
  have HSQ:Hid (ZJ D k rest=(sqn:Int)):=Zh ztv;have HRT:Hid (vR D k rest=(zt sqn:Nat)):=Zh (by rw[zs2];rfl);have zwa:zt sqn<2147483648:=by have:=hR.2.1;rw[HRT.out]at this;omega
  obtain⟨r,hr⟩:=Xz (n-1-k);rw[<-hr]at l1 l3 HRL;have HRR:=Zh hr;have hr1:r+k+1<=n:=by omega
  have hr2:n<=r+k+1:=by omega
  obtain⟨d,hd⟩:=Xz (vD D (k+1));rw[<-hd]at m1 hd1 hd2;have HD:=Zh hd;obtain⟨dk,hdk⟩:=Xz (vD D k);rw[<-hdk]at m3 ztv;have HXD:=Zh hxd;have zqN:=Zh zrU;have HM:=Zh hM;have HX:=Zh hX;have HZ:=Zh hz;have HLV:=Zh hLv;have zqS:=Zh zrT;have bw:w1.heap.size+1<W.heap.size:=by have:=hM.sz;omega
  clear hr hd hdk zs2 hsq hR hxd hdl hll hd0 zu4 zs1 hrl hX hM hz zrT l5;unfold Jj at sb1|-
  go_enter Tryz.func155,Tryz.ntmps155;go_wp2_with fail
  go_loop [12,13,14,34] (fun s _ _ i=>∃q:Nat,q<=r/\i= .int .i64 q/\s= .int .i64 (zD (lam.take q) (tail.take q))) (fun _ _ _ i=>r-(intOf i).toNat)
  case atStart=>exact⟨0,by omega,rfl,by simp[zD]⟩
  case round=>
   obtain⟨q,hq,rfl,rfl⟩:=hrel;by_cases hlt:q<r
   ·obtain⟨a,ha⟩:∃a,lam[q]? =some a:=⟨_,Ze (by have:=HRL.out;omega)⟩;obtain⟨y,hy⟩:∃y,tail[q]? =some y:=⟨_,Ze (by have:=hLv.tl;have:=HRR.out;omega)⟩;obtain⟨b1,o1,-,rfl,-⟩:=HL5.out.at_ (i:=q) (by have:=HRL.out;omega);obtain⟨g1,g2⟩:=jR HL5.out ha;have hxy:xs[k+1+q]? =some y:=by rw[<-hy,<-HXD.out,List.getElem?_drop]
    obtain⟨y',hy1,hy2⟩:=zrU.cell (i:=k+1+q) (by rw[hxl];omega);rw[hxy]at hy1;injection hy1 with hy1
    subst hy1;have hdv:=hN.d2 (k+1) (by omega);have ba:=hN.lam k hkn a (by rw[<-zqR.out];exact Zm ha);have bb:=JL tail q y hy;have bS:=jT hN hLv;have bs:=zag (A:=32768) (B:=549755813888) (by omega) (by omega) (lam.take q) (tail.take q) (fun z hz=>by have:=hN.lam k hkn z (by rw[<-zqR.out];exact List.mem_of_mem_take hz);omega) (fun z hz=>by
     obtain⟨j,hj,e⟩:=List.getElem_of_mem (List.mem_of_mem_take hz);have:=JL tail j z (by simp[hj,e]);omega)
    have bm:=Qx (a:=a) (b:=y) (A:=32768) (B:=549755813888) (by omega) (by omega) (by omega) (by omega);have zsD:=Zh (zaY lam tail q a y ha hy);have htl:(lam.take q).length<=8:=by rw[List.length_take];omega
    obtain⟨s,hs⟩:=Xz (zD (lam.take q) (tail.take q));rw[<-hs]at bs zsD|-
    have bs1:-144115188075855872<=s:=by omega
    have bs2:s<=144115188075855872:=by omega
    obtain⟨bm1,bm2⟩:=bm;have bm3:-18014398509481984<=a*y:=by omega
    have bm4:a*y<=18014398509481984:=by omega
    clear hdv ba bb bS bs bm1 bm2 hs ha hy hxy htl;go_wp2_with fail
    refine⟨⟨q+1,by omega,by go_num,by rw[zsD.out]⟩,by simp[intOf]<;>omega⟩
   ·obtain rfl:q=r:=by omega
    clear hlt;have e1:lam.take q=lam:=List.take_of_length_le (by have:=HRL.out;omega);have e2:tail.take q=tail:=List.take_of_length_le (by have:=hLv.tl;have:=HRR.out;omega);rw[e1,e2];clear e1 e2;have zuo:Hid (zD lam tail=qI L k tail):=Zh (by rw[zqR.out];rfl);rw[zuo.out];obtain⟨sh,hsh⟩:=Xz (qI L k tail);have bsh:=zda hN hLv;have bmS:=zfN hN hLv;rw[<-hsh]at bsh|-
    have bsh1:-36028247263150080<=sh:=by omega
    have bsh2:sh<=36028247263150080:=by omega
    have HSH:=Zh hsh;obtain⟨p,hp⟩:∃p,p=((zt sqn:Int)+sh) / d:=⟨_,rfl⟩;obtain⟨hi,hhi⟩:∃hi,hi=((zt sqn:Int)-sh) / d:=⟨_,rfl⟩;have HLO:Hid (zX D L k rest tail=-p):=Zh (by rw[hp,hsh,HD.out,zX,HRT.out]);have HHI:Hid (Z4 D L k rest tail=hi):=Zh (by rw[hhi,hsh,HD.out,Z4,HRT.out]);have ztw:=JM hN hLv;have zsE:=JN hN hLv;have hSb:=jT hN hLv;have zqP:Hid (z8 D L k rest tail=hi+p+1):=Zh (by rw[z8,HLO.out,HHI.out];omega)
    rw[HLO.out,HHI.out,HRT.out]at ztw;rw[zqP.out]at zsE;have hp1:-1099511627776<=p:=by omega
    have hp2:p<=1099511627776:=by omega
    have hi1:-1099511627776<=hi:=by omega
    have hi2:hi<=1099511627776:=by omega
    have hq1:=hp.symm;have hq2:=hhi.symm;obtain⟨zuT,zuU⟩:=zsE;have zws:zero=true->0<=p:=fun h=>by have:=zlP hN hLv (HZ.out h);rw[HLO.out]at this;omega
    obtain⟨lo,zq4,zwt⟩:∃lo,Hid (ZW D L k rest zero tail=lo)/\lo=if zero then 0 else-p:=⟨_,Zh rfl,by unfold ZW;rw[HLO.out]⟩
    clear bsh bmS ztw hSb hp hhi hsh;obtain⟨z,HZV⟩:∃z,Hid (z=zero):=⟨_,Zh rfl⟩;obtain⟨T,HT⟩:∃T:Nat->List (List Int),Hid (∀j,T j=jG D L exact k rest z tail j):=⟨_,Zh fun _=>rfl⟩;have HT1:Hid (∀j,T (j+1)=T j++JP D L exact k rest z tail (lo+(j:Int))):=Zh fun j=>by rw[HT.out,HT.out,zgh,HZV.out,zq4.out]
    have HTN:Hid (Zw D L exact k rest zero tail=T (hi-lo+1).toNat):=Zh (by rw[zlN,HT.out,HZV.out,je,HHI.out,zq4.out]);have HTL:Hid (∀(x:Int)(j:Nat),x=lo+j->x<=hi->(l++T (j+1)).length<=1073741824):=Zh fun x j h1 h2=>by
     have hh:=zqS.out;rw[HTN.out,HT.out]at hh;have:=(zlO D L exact k rest z tail (i:=j+1) (j:=(hi-lo+1).toNat) (by omega)).length_le;rw[HT.out];simp only[length_append]at hh|-
     omega
    have hZ2:Hid (z=true->zZ tail=0):=Zh (by rw[HZV.out];exact HZ.out);rw[HTN.out];clear HZ zq4 zqS
    cases zero
    all_goals (try simp only[if_true,if_false,Bool.false_eq_true,forall_const]at zwt zws)
    all_goals (
     go_wp2_with (first
      |(go_at_call 156;refine(zkJ (a:=sqn) (by omega)).mono ?_;rintro e w' ⟨rfl,rfl⟩)
      |(go_at_call 157;refine(zkI (by omega) (by omega) (by omega) (by omega)).mono ?_;rintro e w' ⟨rfl,rfl⟩)))
    all_goals (
     go_loopw [19,20,21,99,112] (fun sx _ _ _ _ wr=>∃(x:Int) (j:Nat),sx= .int .i64 x/\Hid (x=lo+j)/\lo<=x/\-p<=x/\(x<=hi+1∨j=0)/\XRow wr (w1.heap.size+1) n k tail/\∃lB c vs,SMem w1 wr n (some ⟨bm,om,none⟩) (some ⟨bl,ol,none⟩) mc lc eb exact lB c (l++T j) vs) (fun sx _ _ _ _ _=>(hi+1-intOf sx).toNat)
     case atStart=>
      refine⟨_,0,rfl,Zh (by omega),by omega,by omega,.inr rfl,HX.out,lB,c,vs,?_⟩;rw[HT.out];simpa[jG] using HM.out
     case round=>
      obtain⟨x,j,rfl,HXJ,hx1,hx2,hx3,hX2,lB2,c2,vs2,hM2⟩:=hrel;clear xb1 sb1 f1 f2 f5 m1 m3 m4 l2 l3 l4 zrU zqN hxl HXD HM HX bw HL5;by_cases hlt:x<=hi
      ·have zsH:zX D L k rest tail<=x:=by rw[HLO.out];exact hx2
       have zsI:x<=Z4 D L k rest tail:=by rw[HHI.out];exact hlt
       have hub:=zdb hN hLv zsH zsI;obtain⟨ztx,zup,-,-⟩:=zdc hN hLv zsH zsI;obtain⟨u,hu⟩:=Xz (d*x+sh);have HU:Hid (vU D L k tail x=u):=Zh (by rw[hu,HSH.out,HD.out];rfl);have HRS:Hid (qf D L k rest tail x=((sqn:Int)-u*u) / d):=Zh (by rw[qf,HU.out,HSQ.out,<-HD.out]);rw[HU.out]at hub ztx zup;rw[HSQ.out]at ztx;rw[HRT.out]at hub;have hln:=HTL.out x j HXJ.out hlt;have xb2:wr.cell? ⟨w1.heap.size+2,0,none⟩=some (.slice (some ⟨w1.heap.size+1,0,none⟩) n n):=by simp[World.cell?,hM2.xb]
       have sb2:wr.cell? ⟨w1.heap.size+4,0,none⟩=some (.func (.func 155) #[] (Jj w1.heap.size eb)):=by simp[World.cell?,hM2.sb]
       have lb2:wr.cell? ⟨w1.heap.size+3,0,none⟩=some (.slice lB2 (l++T j).length c2):=by simp[World.cell?,hM2.lb]
       have ec2:wr.cell? ⟨eb,0,none⟩=some (.bool exact):=(World.cell?_of_block (hM2.ext.below.block eb hM2.ebl)).trans hM2.ec;have bw2:w1.heap.size+5<=wr.heap.size:=hM2.sz;have zxJ:=hM2.ebl;obtain⟨xs2,ztX,zu5,-⟩:=id hX2;obtain⟨y0,-,hc0⟩:=ztX.cell (i:=k) (by omega);have hf0:=ztX.frozen k;have hu':=hu.symm;have zwc:-2147483648<=u:=by omega
       have zwd:u<=2147483648:=by omega
       have hus:u*u<=4611686018427387904:=by omega
       have hdx:=Qx (a:=d) (b:=x) (A:=65536) (B:=2199023255552) (by omega) (by omega) (by omega) (by omega);have zwe:-144115188075855872<=d*x:=by omega
       have zwf:d*x<=144115188075855872:=by omega
       by_cases hk0:k=0
       ·have hkb:¬((0:Int)<k):=by omega
        have zxK:k<1:=by omega
        have hX3:=hX2.put0 x;obtain⟨hR3,hRl⟩:=hX2.full hk0 hkn x;have hM3:=hM2.setX k (.int .i64 x);obtain⟨lf,hlf⟩:∃lf,lf=((sqn:Int)-u*u) / d:=⟨_,rfl⟩;have HLF:=Zh hlf;have HNX:Hid (T (j+1)=T j++if jf z exact x lf then [x::tail] else []):=Zh (by
         rw[HT1.out,<-HXJ.out,JP,if_pos hk0,HRS.out,hlf])
        have zxL:=hlf.symm;clear hub hu zsH zsI hdx zu5 ztX hlf;have HX3:=Zh hX3;have HR3:=Zh hR3;have HM3:=Zh hM3;have HLN:=Zh hln;have zqM:=Zh hRl;have HK0:=Zh hk0;clear hM2 hX2 hX3 hR3 hM3 hln hRl hk0;by_cases htk:jf z exact x lf=true
        ·have hT2:Hid (T (j+1)=T j++[x::tail]):=Zh (by rw[HNX.out];simp[htk]);have zti:¬(z=true/\x=0)/\(exact=false∨(exact=true/\lf=0)):=by
          cases z<;>cases exact<;>by_cases hx0:x=0<;>by_cases hl0:lf=0<;>simp_all [jf]
         have ztY:(z=false∨(z=true/\(x==0)=false))/\(exact=false∨(exact=true/\(lf==0)=true)):=by
          cases z<;>cases exact<;>by_cases hx0:x=0<;>by_cases hl0:lf=0<;>simp_all [jf]
         rw[HZV.out]at ztY;simp only[Bool.false_eq_true,Bool.true_eq_false,false_and,true_and,false_or,or_false,true_or]at ztY;clear htk HNX zti;first
          |(obtain⟨ztZ,he1⟩:=ztY
            rcases he1 with rfl|⟨rfl,hl0⟩
            ·go_wp2_with fail
             generalize wr.setCell ⟨w1.heap.size+1,k,none⟩ (.int .i64 x)=wS at HX3 HR3 HM3|-
             obtain⟨ln,zr6⟩:=Yz ((l++T j).length);have zqT:=Zh zr6;have zr7:=HM3.out.lb;rw[zr6]at zr7;have lb3:wS.cell? ⟨w1.heap.size+3,0,none⟩=some (.slice lB2 ln c2):=by simp[World.cell?,zr7]
             have lf3:wS.frozen? ⟨w1.heap.size+3,0,none⟩=false:=by simp[World.frozen?,zr7]
             have zsc:=HM3.out.ls.own;rw[zr6]at zsc;have HO3:=Zh zsc;have HLB:=Zh zr7;have hle:ln+1<=1073741824:=by
              have:=HLN.out;rw[hT2.out,<-append_assoc,length_append,zr6]at this;simpa using this
             have xb3:wS.cell? ⟨w1.heap.size+2,0,none⟩=some (.slice (some ⟨w1.heap.size+1,0,none⟩) n n):=by simp[World.cell?,HM3.out.xb]
             have bw3:=HM3.out.sz;have oS3:Old (w1.heap.size+3) wS:=⟨by omega⟩;have hcl:=fun W(hxx:Ext wS W)=>za3 (w:=W) (c:=n) HR3.out.ints (by rw[zqM.out];omega)
             rw[zqM.out]at hcl;have HCL:=Zh hcl;clear hcl zr6 lb2 zr7 zsc;go_region_law (first
              |((refine QB _ rfl (.tmp 94) (.tmp 97) 25 rfl (w1.heap.size+5) 28 (.slice none 0 0) 1 24 Tryz.underlying25 Qa rfl (by decide) (by decide) lB2 ln c2 vs2 (by simp[Act.eval]) (HO3.out.ext Zi) (some ⟨W5.heap.size,0,none⟩) 1 1 [.slice B5 n d5] (by simp[Act.eval]) ((Arr.new W5 28 #[.slice B5 n d5]).ext Zi) rfl (by simp[Value.oneCell']) (by omega) (by have:=hs5.size;simp at this|-;omega) ?_);intro A6 d6 w6 zr0 hg6;have hb6:=(hg6.below.block (w1.heap.size+3) (by omega)).trans (zj (Zi:Ext wS ((W5.alloc (Obj.cells #[Value.slice B5 n d5] 28)))) HLB.out);have q1:w6.cell? ⟨w1.heap.size+3,0,none⟩=some (.slice lB2 ln c2):=(by simp[World.cell?,hb6]);have q2:w6.frozen? ⟨w1.heap.size+3,0,none⟩=false:=(by simp[World.frozen?,hb6]);have q3:w1.heap.size+3<w6.heap.size:=zG hb6;clear hb6)
              |(go_simp;go_at_call 158;refine(HCL.out _ Zi).mono ?_;rintro e W5 ⟨B5,d5,rfl,hO5,hs5⟩;rw[zqM.out]))
             all_goals (
              obtain⟨hX6,hM6⟩:=SMem.took HM3.out HX3.out (Zi:Ext wS W5) hO5 HM3.out.sz zqM.out zqT.out zr0 hg6 hT2.out;clear q1 q2 q3 zr0 hg6 hO5 hs5 HCL HO3 HLB lb3 lf3 xb3;generalize w6.setCell ⟨w1.heap.size+3,0,none⟩ (.slice A6 (ln+1) d6)=w7 at hX6 hM6|-
              have HX6:=Zh hX6;have HM6:=Zh hM6;clear hX6 hM6;go_wp2_with fail
              exact⟨⟨x+1,j+1,rfl,Zh (by have:=HXJ.out;omega),by omega,by omega,.inl (by omega),HX6.out,A6,d6,_,HM6.out⟩,by simp[intOf]<;>omega⟩)
            ·go_wp2_with fail
             generalize wr.setCell ⟨w1.heap.size+1,k,none⟩ (.int .i64 x)=wS at HX3 HR3 HM3|-
             obtain⟨ln,zr6⟩:=Yz ((l++T j).length);have zqT:=Zh zr6;have zr7:=HM3.out.lb;rw[zr6]at zr7;have lb3:wS.cell? ⟨w1.heap.size+3,0,none⟩=some (.slice lB2 ln c2):=by simp[World.cell?,zr7]
             have lf3:wS.frozen? ⟨w1.heap.size+3,0,none⟩=false:=by simp[World.frozen?,zr7]
             have zsc:=HM3.out.ls.own;rw[zr6]at zsc;have HO3:=Zh zsc;have HLB:=Zh zr7;have hle:ln+1<=1073741824:=by
              have:=HLN.out;rw[hT2.out,<-append_assoc,length_append,zr6]at this;simpa using this
             have xb3:wS.cell? ⟨w1.heap.size+2,0,none⟩=some (.slice (some ⟨w1.heap.size+1,0,none⟩) n n):=by simp[World.cell?,HM3.out.xb]
             have bw3:=HM3.out.sz;have oS3:Old (w1.heap.size+3) wS:=⟨by omega⟩;have hcl:=fun W(hxx:Ext wS W)=>za3 (w:=W) (c:=n) HR3.out.ints (by rw[zqM.out];omega)
             rw[zqM.out]at hcl;have HCL:=Zh hcl;clear hcl zr6 lb2 zr7 zsc;go_region_law (first
              |((refine QB _ rfl (.tmp 94) (.tmp 97) 25 rfl (w1.heap.size+5) 28 (.slice none 0 0) 1 24 Tryz.underlying25 Qa rfl (by decide) (by decide) lB2 ln c2 vs2 (by simp[Act.eval]) (HO3.out.ext Zi) (some ⟨W5.heap.size,0,none⟩) 1 1 [.slice B5 n d5] (by simp[Act.eval]) ((Arr.new W5 28 #[.slice B5 n d5]).ext Zi) rfl (by simp[Value.oneCell']) (by omega) (by have:=hs5.size;simp at this|-;omega) ?_);intro A6 d6 w6 zr0 hg6;have hb6:=(hg6.below.block (w1.heap.size+3) (by omega)).trans (zj (Zi:Ext wS ((W5.alloc (Obj.cells #[Value.slice B5 n d5] 28)))) HLB.out);have q1:w6.cell? ⟨w1.heap.size+3,0,none⟩=some (.slice lB2 ln c2):=(by simp[World.cell?,hb6]);have q2:w6.frozen? ⟨w1.heap.size+3,0,none⟩=false:=(by simp[World.frozen?,hb6]);have q3:w1.heap.size+3<w6.heap.size:=zG hb6;clear hb6)
              |(go_simp;go_at_call 158;refine(HCL.out _ Zi).mono ?_;rintro e W5 ⟨B5,d5,rfl,hO5,hs5⟩;rw[zqM.out]))
             all_goals (
              obtain⟨hX6,hM6⟩:=SMem.took HM3.out HX3.out (Zi:Ext wS W5) hO5 HM3.out.sz zqM.out zqT.out zr0 hg6 hT2.out;clear q1 q2 q3 zr0 hg6 hO5 hs5 HCL HO3 HLB lb3 lf3 xb3;generalize w6.setCell ⟨w1.heap.size+3,0,none⟩ (.slice A6 (ln+1) d6)=w7 at hX6 hM6|-
              have HX6:=Zh hX6;have HM6:=Zh hM6;clear hX6 hM6;go_wp2_with fail
              exact⟨⟨x+1,j+1,rfl,Zh (by have:=HXJ.out;omega),by omega,by omega,.inl (by omega),HX6.out,A6,d6,_,HM6.out⟩,by simp[intOf]<;>omega⟩))
          |(rcases ztY with rfl|⟨rfl,hl0⟩
            ·go_wp2_with fail
             generalize wr.setCell ⟨w1.heap.size+1,k,none⟩ (.int .i64 x)=wS at HX3 HR3 HM3|-
             obtain⟨ln,zr6⟩:=Yz ((l++T j).length);have zqT:=Zh zr6;have zr7:=HM3.out.lb;rw[zr6]at zr7;have lb3:wS.cell? ⟨w1.heap.size+3,0,none⟩=some (.slice lB2 ln c2):=by simp[World.cell?,zr7]
             have lf3:wS.frozen? ⟨w1.heap.size+3,0,none⟩=false:=by simp[World.frozen?,zr7]
             have zsc:=HM3.out.ls.own;rw[zr6]at zsc;have HO3:=Zh zsc;have HLB:=Zh zr7;have hle:ln+1<=1073741824:=by
              have:=HLN.out;rw[hT2.out,<-append_assoc,length_append,zr6]at this;simpa using this
             have xb3:wS.cell? ⟨w1.heap.size+2,0,none⟩=some (.slice (some ⟨w1.heap.size+1,0,none⟩) n n):=by simp[World.cell?,HM3.out.xb]
             have bw3:=HM3.out.sz;have oS3:Old (w1.heap.size+3) wS:=⟨by omega⟩;have hcl:=fun W(hxx:Ext wS W)=>za3 (w:=W) (c:=n) HR3.out.ints (by rw[zqM.out];omega)
             rw[zqM.out]at hcl;have HCL:=Zh hcl;clear hcl zr6 lb2 zr7 zsc;go_region_law (first
              |((refine QB _ rfl (.tmp 94) (.tmp 97) 25 rfl (w1.heap.size+5) 28 (.slice none 0 0) 1 24 Tryz.underlying25 Qa rfl (by decide) (by decide) lB2 ln c2 vs2 (by simp[Act.eval]) (HO3.out.ext Zi) (some ⟨W5.heap.size,0,none⟩) 1 1 [.slice B5 n d5] (by simp[Act.eval]) ((Arr.new W5 28 #[.slice B5 n d5]).ext Zi) rfl (by simp[Value.oneCell']) (by omega) (by have:=hs5.size;simp at this|-;omega) ?_);intro A6 d6 w6 zr0 hg6;have hb6:=(hg6.below.block (w1.heap.size+3) (by omega)).trans (zj (Zi:Ext wS ((W5.alloc (Obj.cells #[Value.slice B5 n d5] 28)))) HLB.out);have q1:w6.cell? ⟨w1.heap.size+3,0,none⟩=some (.slice lB2 ln c2):=(by simp[World.cell?,hb6]);have q2:w6.frozen? ⟨w1.heap.size+3,0,none⟩=false:=(by simp[World.frozen?,hb6]);have q3:w1.heap.size+3<w6.heap.size:=zG hb6;clear hb6)
              |(go_simp;go_at_call 158;refine(HCL.out _ Zi).mono ?_;rintro e W5 ⟨B5,d5,rfl,hO5,hs5⟩;rw[zqM.out]))
             all_goals (
              obtain⟨hX6,hM6⟩:=SMem.took HM3.out HX3.out (Zi:Ext wS W5) hO5 HM3.out.sz zqM.out zqT.out zr0 hg6 hT2.out;clear q1 q2 q3 zr0 hg6 hO5 hs5 HCL HO3 HLB lb3 lf3 xb3;generalize w6.setCell ⟨w1.heap.size+3,0,none⟩ (.slice A6 (ln+1) d6)=w7 at hX6 hM6|-
              have HX6:=Zh hX6;have HM6:=Zh hM6;clear hX6 hM6;go_wp2_with fail
              exact⟨⟨x+1,j+1,rfl,Zh (by have:=HXJ.out;omega),by omega,by omega,.inl (by omega),HX6.out,A6,d6,_,HM6.out⟩,by simp[intOf]<;>omega⟩)
            ·go_wp2_with fail
             generalize wr.setCell ⟨w1.heap.size+1,k,none⟩ (.int .i64 x)=wS at HX3 HR3 HM3|-
             obtain⟨ln,zr6⟩:=Yz ((l++T j).length);have zqT:=Zh zr6;have zr7:=HM3.out.lb;rw[zr6]at zr7;have lb3:wS.cell? ⟨w1.heap.size+3,0,none⟩=some (.slice lB2 ln c2):=by simp[World.cell?,zr7]
             have lf3:wS.frozen? ⟨w1.heap.size+3,0,none⟩=false:=by simp[World.frozen?,zr7]
             have zsc:=HM3.out.ls.own;rw[zr6]at zsc;have HO3:=Zh zsc;have HLB:=Zh zr7;have hle:ln+1<=1073741824:=by
              have:=HLN.out;rw[hT2.out,<-append_assoc,length_append,zr6]at this;simpa using this
             have xb3:wS.cell? ⟨w1.heap.size+2,0,none⟩=some (.slice (some ⟨w1.heap.size+1,0,none⟩) n n):=by simp[World.cell?,HM3.out.xb]
             have bw3:=HM3.out.sz;have oS3:Old (w1.heap.size+3) wS:=⟨by omega⟩;have hcl:=fun W(hxx:Ext wS W)=>za3 (w:=W) (c:=n) HR3.out.ints (by rw[zqM.out];omega)
             rw[zqM.out]at hcl;have HCL:=Zh hcl;clear hcl zr6 lb2 zr7 zsc;go_region_law (first
              |((refine QB _ rfl (.tmp 94) (.tmp 97) 25 rfl (w1.heap.size+5) 28 (.slice none 0 0) 1 24 Tryz.underlying25 Qa rfl (by decide) (by decide) lB2 ln c2 vs2 (by simp[Act.eval]) (HO3.out.ext Zi) (some ⟨W5.heap.size,0,none⟩) 1 1 [.slice B5 n d5] (by simp[Act.eval]) ((Arr.new W5 28 #[.slice B5 n d5]).ext Zi) rfl (by simp[Value.oneCell']) (by omega) (by have:=hs5.size;simp at this|-;omega) ?_);intro A6 d6 w6 zr0 hg6;have hb6:=(hg6.below.block (w1.heap.size+3) (by omega)).trans (zj (Zi:Ext wS ((W5.alloc (Obj.cells #[Value.slice B5 n d5] 28)))) HLB.out);have q1:w6.cell? ⟨w1.heap.size+3,0,none⟩=some (.slice lB2 ln c2):=(by simp[World.cell?,hb6]);have q2:w6.frozen? ⟨w1.heap.size+3,0,none⟩=false:=(by simp[World.frozen?,hb6]);have q3:w1.heap.size+3<w6.heap.size:=zG hb6;clear hb6)
              |(go_simp;go_at_call 158;refine(HCL.out _ Zi).mono ?_;rintro e W5 ⟨B5,d5,rfl,hO5,hs5⟩;rw[zqM.out]))
             all_goals (
              obtain⟨hX6,hM6⟩:=SMem.took HM3.out HX3.out (Zi:Ext wS W5) hO5 HM3.out.sz zqM.out zqT.out zr0 hg6 hT2.out;clear q1 q2 q3 zr0 hg6 hO5 hs5 HCL HO3 HLB lb3 lf3 xb3;generalize w6.setCell ⟨w1.heap.size+3,0,none⟩ (.slice A6 (ln+1) d6)=w7 at hX6 hM6|-
              have HX6:=Zh hX6;have HM6:=Zh hM6;clear hX6 hM6;go_wp2_with fail
              exact⟨⟨x+1,j+1,rfl,Zh (by have:=HXJ.out;omega),by omega,by omega,.inl (by omega),HX6.out,A6,d6,_,HM6.out⟩,by simp[intOf]<;>omega⟩))
        ·have hT2:Hid (T (j+1)=T j):=Zh (by rw[HNX.out];simp[htk]);have zti:(z=true/\(x==0)=true)∨(z=true/\(x==0)=false/\exact=true/\(lf==0)=false)∨(z=false/\exact=true/\(lf==0)=false):=by
          cases z<;>cases exact<;>by_cases hx0:x=0<;>by_cases hl0:lf=0<;>simp_all [jf]
         rw[HZV.out]at zti;simp only[Bool.false_eq_true,Bool.true_eq_false,false_and,true_and,false_or,or_false]at zti;clear htk HNX;have zrW:∀v:Value,v= .int .i64 (x+1)->(∃(x':Int) (j:Nat),v= .int .i64 x'/\Hid (x'=lo+j)/\lo<=x'/\-p<=x'/\(x'<=hi+1∨j=0)/\XRow (wr.setCell ⟨w1.heap.size+1,k,none⟩ (.int .i64 x)) (w1.heap.size+1) n k tail/\∃lB c vs,SMem w1 (wr.setCell ⟨w1.heap.size+1,k,none⟩ (.int .i64 x)) n (some ⟨bm,om,none⟩) (some ⟨bl,ol,none⟩) mc lc eb exact lB c (l++T j) vs):=fun v hv=>⟨x+1,j+1,hv,Zh (by have:=HXJ.out;omega),by omega,by omega,.inl (by omega),HX3.out,lB2,c2,vs2,by rw[hT2.out];exact HM3.out⟩
         have zqL:=Zh zrW;clear zrW;first
          |(obtain⟨rfl,hl0⟩:=zti
            go_wp2_with fail
            exact⟨zqL.out _ rfl,by simp[intOf]<;>omega⟩)
          |(rcases zti with ztZ|⟨ztZ,rfl,hl0⟩
            ·go_wp2_with fail
             exact⟨zqL.out _ rfl,by simp[intOf]<;>omega⟩
            ·go_wp2_with fail
             exact⟨zqL.out _ rfl,by simp[intOf]<;>omega⟩)
       ·obtain⟨k',HK1⟩:∃k',Hid (k=k'+1):=⟨k-1,Zh (by omega)⟩;have zwb:1<=k:=by omega
        have hkb:decide ((0:Int)<k)=true:=by simp;omega
        have hLn:LevOK D n za (k'+1) rest tail:=by rw[<-HK1.out];exact hLv
        have hL':LevOK D n za k' (((sqn:Int)-u*u) / d) (x::tail):=by
         have:=LevOK.next hN hLn (x:=x) (by rw[<-HK1.out];exact zsH) (by rw[<-HK1.out];exact zsI);rw[<-HK1.out,HRS.out]at this;exact this
        have hX3:XRow (wr.setCell ⟨w1.heap.size+1,k,none⟩ (.int .i64 x)) (w1.heap.size+1) n k' (x::tail):=by
         have h1:XRow wr (w1.heap.size+1) n (k'+1) tail:=by rw[<-HK1.out];exact hX2
         have:=h1.put (by have:=HK1.out;omega) x;rw[<-HK1.out]at this;exact this
        obtain⟨zb,HZB⟩:∃zb,Hid (zb=(z&&decide (x=0))):=⟨_,Zh rfl⟩;have hz3:zb=true->zZ (x::tail)=0:=fun h=>by
         rw[HZB.out]at h;simp at h;have:=hZ2.out h.1;simp[zZ,h.2]at this|-
         exact this
        have HNX:Hid (T (j+1)=T j++Zw D L exact k' (((sqn:Int)-u*u) / d) zb (x::tail)):=Zh (by
         rw[HT1.out,<-HXJ.out,JP,if_neg hk0,HRS.out,HZB.out,show k-1=k' by have:=HK1.out;omega])
        have zr4:=ih k' (by have:=HK1.out;omega) _ zb _ _ _ _ (l++T j) _ hL' hz3 hX3 (hM2.setX k (.int .i64 x)) (by rw[append_assoc,<-HNX.out];exact hln);rw[append_assoc,<-HNX.out,show ((k':Nat):Int)=(k:Int)-1 by have:=HK1.out;omega]at zr4;unfold Jj at sb2 zr4;simp only[List.append_toArray,List.cons_append,nil_append]at zr4;have HC:=Zh zr4;have hfn:=zgi;unfold qG at hfn;clear hub hu zsH zsI hX3 hL' hLn zr4 hdx zu5 ztX hz3 hln hk0
        have HM2:=Zh hM2;have HX2:=Zh hX2;clear hM2 hX2;by_cases hx0:x=0
        all_goals (
         have hzb:=HZB.out;rw[HZV.out]at hzb;simp[hx0]at hzb;subst hzb)
        ·have ztZ:(x==0)=true:=by simp[hx0]
         clear hx0;go_wp2_with (refine HC.out.mono ?_;rintro e W3 ⟨rfl,hX4,lB4,c4,vs4,hM4⟩)
         refine⟨⟨x+1,j+1,rfl,Zh (by have:=HXJ.out;omega),by omega,by omega,.inl (by omega),?_,lB4,c4,vs4,hM4⟩,by simp[intOf]<;>omega⟩;have:=hX4.up;rw[<-HK1.out]at this;exact this
        ·have ztZ:(x==0)=false:=by simp[hx0]
         clear hx0;go_wp2_with (refine HC.out.mono ?_;rintro e W3 ⟨rfl,hX4,lB4,c4,vs4,hM4⟩)
         refine⟨⟨x+1,j+1,rfl,Zh (by have:=HXJ.out;omega),by omega,by omega,.inl (by omega),?_,lB4,c4,vs4,hM4⟩,by simp[intOf]<;>omega⟩;have:=hX4.up;rw[<-HK1.out]at this;exact this
      ·have hj:j=(hi-lo+1).toNat:=by have:=HXJ.out;omega
       have HJJ:=Zh hj;clear hj;go_wp2_with fail
       go_end0
       refine⟨rfl,hX2,lB2,c2,vs2,?_⟩;rw[HTN.out,<-HJJ.out];exact hM2)
def zdm(w:World)(v:Value)(e:Ending)(w':World):Prop:=e= .returned v/\∃n,w'=w.drewN n
theorem zdn{X Y:Option Addr}{x y:List Int}(hX:Ints w0 X 2 .i64 x)(hY:Ints w0 Y 2 .i64 y)(hx1:x.length<=1099511627776)(hy1:y.length<=1099511627776)[hx:Ext w0 w]:
  Cq 47 #[.slice X x.length c,.slice Y y.length d] w (zdm w (.int .i64 (zB x y))):=by
 go_enter Tryz.func47,Tryz.ntmps47;go_wp2;go_loopw [5] (fun i wr=>∃k:Nat,k<=x.length/\k<=y.length/\i= .int .i64 k/\Hid (zB x y=zB (x.drop k) (y.drop k))/\Hid (∃n,wr=w.drewN n)) (fun i _=>x.length-(intOf i).toNat)
 case atStart=>exact⟨0,by omega,by omega,rfl,Zh rfl,Zh ⟨0,rfl⟩⟩
 case round=>
  obtain⟨k,hk1,hk2,rfl,HE,HN⟩:=hrel;have hxn:Ext w0 wr:=by obtain⟨n,hn⟩:=HN.out;rw[hn];infer_instance
  by_cases hlt:k<x.length
  ·obtain⟨b1,o1,a,rfl,ha,g1,g2⟩:=(hX.ext hxn).at_ hlt;by_cases zst:k<y.length
   ·obtain⟨b2,o2,b,rfl,hb,g3,g4⟩:=(hY.ext hxn).at_ zst;have ea:x.drop k=a::x.drop (k+1):=by rw[List.drop_eq_getElem_cons hlt,(Zg.1 ha).2]
    have eb:y.drop k=b::y.drop (k+1):=by rw[List.drop_eq_getElem_cons zst,(Zg.1 hb).2]
    have HE2:Hid (zB x y=if zk a b=0 then zB (x.drop (k+1)) (y.drop (k+1)) else zk a b):=Zh (by rw[HE.out,ea,eb,zB]);clear ha hb ea eb;by_cases hab:a<b
    ·have h1:(a !=b)=true:=by simp;omega
     have h2:decide (a<b)=true:=by simpa using hab
     have HV:Hid (zB x y=-1):=Zh (by rw[HE2.out,qj hab];rfl);clear hab;go_wp2;go_quiet (fail)
     go_wp2;go_quiet (fail)
     go_wp2;go_ret;exact⟨by rw[HV.out];rfl,by obtain⟨n,hn⟩:=HN.out;exact⟨_,by rw[hn,World.drewN_drewN,World.drewN_drewN]⟩⟩
    ·by_cases hba:b<a
     ·have h1:(a !=b)=true:=by simp;omega
      have h2:decide (a<b)=false:=by simpa using hab
      have HV:Hid (zB x y=1):=Zh (by rw[HE2.out,qD hba];rfl);clear hab hba;go_wp2;go_quiet (fail)
      go_wp2;go_quiet (fail)
      go_wp2;go_ret;exact⟨by rw[HV.out];rfl,by obtain⟨n,hn⟩:=HN.out;exact⟨_,by rw[hn,World.drewN_drewN,World.drewN_drewN]⟩⟩
     ·have zuu:a=b:=by omega
      have h1:(a !=b)=false:=by simp[zuu]
      have HV:Hid (zB x y=zB (x.drop (k+1)) (y.drop (k+1))):=Zh (by rw[HE2.out,qY zuu];rfl);clear hab hba zuu;go_wp2;go_quiet (fail)
      go_wp2;exact⟨⟨k+1,by omega,by omega,by go_num,HV,Zh (by obtain⟨n,hn⟩:=HN.out;exact⟨_,by rw[hn,World.drewN_drewN]⟩)⟩,by simp[intOf];omega⟩
   ·have HV:Hid (zB x y=1):=Zh (by
     rw[HE.out,List.drop_eq_getElem_cons hlt,show y.drop k=[] from drop_eq_nil_iff.2 (by omega)];rfl)
    clear ha;go_wp2;go_ret;exact⟨by rw[HV.out];rfl,HN.out⟩
  ·by_cases zst:k<y.length
   ·have HV:Hid (zB x y=-1):=Zh (by
     rw[HE.out,show x.drop k=[] from drop_eq_nil_iff.2 (by omega),List.drop_eq_getElem_cons zst];rfl)
    go_wp2;go_ret;exact⟨by rw[HV.out];rfl,HN.out⟩
   ·have HV:Hid (zB x y=0):=Zh (by
     rw[HE.out,show x.drop k=[] from drop_eq_nil_iff.2 (by omega),show y.drop k=[] from drop_eq_nil_iff.2 (by omega)];rfl)
    go_wp2;go_ret;exact⟨by rw[HV.out];rfl,HN.out⟩
theorem IntsA.at0{l:List Int}(h:IntsA w A l)(hi:0<l.length):∃b o x,A=some ⟨b,o,none⟩/\l[0]? =some x/\w.cell? ⟨b,o,none⟩=some (.int .i64 x)/\b<w.heap.size:=by
 obtain⟨te,h⟩:=h;exact h.at0 hi
def Zy(m:List (List Int))(za:Int)(exact:Bool):List (List Int):=
 if m.length=1 then Qd (ent m 0 0) za exact (zt (za / ent m 0 0).toNat)
 else Zw (zm m m.length) (zr m m.length) exact (m.length-1) (vD (zm m m.length) m.length*za) true []
theorem zdo{h:Int}(h1:1<=h)(hb:0<=za):(∀x:Int,1<=x->x<=(zt (za / h).toNat:Nat)->h*x*x<=za)/\za<h*((zt (za / h).toNat:Nat)+1:Int)*((zt (za / h).toNat:Nat)+1):=by
 obtain⟨s1,s2⟩:=Qb (za / h).toNat;obtain⟨r,hr⟩:=Xz (zt (za / h).toNat);rw[<-hr]at s1 s2|-
 have q0:=Int.ediv_nonneg hb (show 0<=h by omega);have e1:=Int.mul_ediv_add_emod za h;have e2:=Int.emod_nonneg za (show h≠0 by omega);have e3:=Int.emod_lt_of_pos za (show 0<h by omega);have s1':(r:Int)*r<=za / h:=by
  have:((r*r:Nat):Int)<=za / h:=by omega
  simpa using this
 have s2':za / h+1<=((r:Int)+1)*(r+1):=by
  have:za / h+1<=(((r+1)*(r+1):Nat):Int):=by omega
  simpa using this
 refine⟨fun x h1x hxr=>?_,?_⟩
 ·have a1:x*x<=(r:Int)*r:=Int.mul_le_mul hxr hxr (by omega) (by omega);have a2:h*(x*x)<=h*(za / h):=Int.mul_le_mul_of_nonneg_left (by omega) (by omega);rw[Int.mul_assoc];omega
 ·have a2:h*(za / h+1)<=h*(((r:Int)+1)*(r+1)):=Int.mul_le_mul_of_nonneg_left s2' (by omega);rw[Int.mul_add,Int.mul_one]at a2;rw[Int.mul_assoc];omega
theorem zgj(w w':World)(x:Value)(T:TypeId)[h:Ext (w.alloc (.cells #[x] T)) w']:w'.cell? ⟨w.heap.size,0,none⟩=some x:=by
 have h0:w'.heap[w.heap.size]? =some (.cells #[x] T (0,0)):=zj h (heap_alloc_new w _);simp[World.cell?,h0]
theorem zlT(h:MatA w0 A m)(hm:m.length=1)(hl:AllLen m 1)(h1:1<=ent m 0 0)(h2:ent m 0 0<65536)(hb:0<=za)(hr:zt (za / ent m 0 0).toNat<=1048576)[hx:Ext w0 w]:
  Cq 104 #[.slice A m.length c,.int .i64 za,.bool exact] w (Ji w (Zy m za exact)):=by
 obtain⟨hin,zsR⟩:=zdo h1 hb;obtain⟨r,hre⟩:=Xz (zt (za / ent m 0 0).toNat);have HC:Hid (Zy m za exact=Qd (ent m 0 0) za exact r):=Zh (by rw[Zy,if_pos hm,hre]);rw[HC.out];rw[<-hre]at hin zsR hr;obtain⟨r0,hr0⟩:∃r0,m[0]? =some r0:=⟨_,Ze (by omega)⟩;obtain⟨b,o,B,c1,rfl,e1,f1,f2,f3,f4⟩:=h.at_ hr0;have hrl:r0.length=1:=hl r0 (Zm hr0);obtain⟨b2,o2,a,rfl,ha,g1,g2⟩:=f1.at0 (by omega);have hae:ent m 0 0=a:=by unfold ent;simp[hr0,ha]
 rw[hae]at h1 h2 hin zsR|-
 rw[hrl]at e1 f2;rw[hm];have k1:a*((r:Int)+1)<=65535*1048577:=Int.mul_le_mul (by omega) (by omega) (by omega) (by omega);have k0:0<=a*((r:Int)+1):=Int.mul_nonneg (by omega) (by omega);have k2:a*((r:Int)+1)*((r:Int)+1)<=65535*1048577*1048577:=Int.mul_le_mul k1 (by omega) (by omega) (by omega);have hc:=fun W=>zlH (w:=W) (exact:=exact) r h1 (by omega) hin zsR (by omega) (by omega)
 have HM:=Zh hc;clear hc hin zsR k1 k0 k2 hre hrl hae ha hr0 hm;have ob:Old b w0:=⟨f4⟩;have ob2:Old b2 w0:=⟨g2⟩;simp only[Nat.add_zero]at e1;have E1:=fun W(hh:Ext w0 W)=>(zi w0 (w':=W) (b:=b) (o:=o)).trans e1
 have E2:=fun W(hh:Ext w0 W)=>(zi w0 (w':=W) (b:=b2) (o:=o2)).trans g1
 have HE1:=Zh E1;have HE2:=Zh E2;clear E1 E2 e1 g1;go_enter Tryz.func104,Tryz.ntmps104;go_wp2;go_region_held3 (fun w'=>w'.cell? ⟨b,o,none⟩=some (.slice (some ⟨b2,o2,none⟩) 1 c1)/\w'.cell? ⟨b2,o2,none⟩=some (.int .i64 a)/\w'.cell? ⟨w.heap.size,0,none⟩=some (.bool exact)) (exact⟨HE1.out _ Zi,HE2.out _ Zi,zgj w _ _ 4⟩)
  ((go_at_call 153;refine(HM.out _).mono ?_;rintro e w2 ⟨A2,c2,rfl,hM2,l1,l2,hs2⟩))
 go_wp2;go_ret;exact⟨A2,c2,rfl,hM2,l1,l2,Step.of _ _⟩
theorem XRow.drew(h:XRow w sz n k tail):XRow w.drew sz n k tail:=h
theorem SMem.drew(h:SMem w1 W n mA lA mc lc eb exact lB c l vs):SMem w1 W.drew n mA lA mc lc eb exact lB c l vs where
 ext:=have:=h.ext;Zi
 fb:=h.fb
 xb:=h.xb
 lb:=h.lb
 sb:=h.sb
 ebl:=h.ebl
 ec:=h.ec
 ls:=have:=h.ext;h.ls.ext (Ext.drew W W)
 sz:=h.sz
theorem SMem.start(hn:1<=n)(heb:eb<w1.heap.size)(hec:w1.cell? ⟨eb,0,none⟩=some (.bool exact)):
  XRow (((((w1.alloc (.cells #[.slice mA (n+1) mc,.slice lA n lc] 201)).alloc (.cells (Zc #[.int .i64 0] n) 2)).alloc (.cells #[.slice (some ⟨w1.heap.size+1,0,none⟩) n n] 28)).alloc (.cells #[.slice none 0 0] 25)).alloc (.cells #[.func (.func 155) #[] #[.pointer (some ⟨w1.heap.size,0,none⟩),.pointer (some ⟨w1.heap.size+1+1,0,none⟩),.pointer (some ⟨w1.heap.size+1+1+1+1,0,none⟩),.pointer (some ⟨eb,0,none⟩),.pointer (some ⟨w1.heap.size+1+1+1,0,none⟩)]] 203)) (w1.heap.size+1) n (n-1) []/\
  SMem w1 (((((w1.alloc (.cells #[.slice mA (n+1) mc,.slice lA n lc] 201)).alloc (.cells (Zc #[.int .i64 0] n) 2)).alloc (.cells #[.slice (some ⟨w1.heap.size+1,0,none⟩) n n] 28)).alloc (.cells #[.slice none 0 0] 25)).alloc (.cells #[.func (.func 155) #[] #[.pointer (some ⟨w1.heap.size,0,none⟩),.pointer (some ⟨w1.heap.size+1+1,0,none⟩),.pointer (some ⟨w1.heap.size+1+1+1+1,0,none⟩),.pointer (some ⟨eb,0,none⟩),.pointer (some ⟨w1.heap.size+1+1+1,0,none⟩)]] 203)) n mA lA mc lc eb exact none 0 [] []:=by
 generalize e1:w1.alloc (.cells #[.slice mA (n+1) mc,.slice lA n lc] 201)=W1;generalize e2:W1.alloc (.cells (Zc #[.int .i64 0] n) 2)=W2;generalize e3:W2.alloc (.cells #[.slice (some ⟨w1.heap.size+1,0,none⟩) n n] 28)=W3;generalize e4:W3.alloc (.cells #[.slice none 0 0] 25)=W4;generalize e5:W4.alloc (.cells #[.func (.func 155) #[] #[.pointer (some ⟨w1.heap.size,0,none⟩),.pointer (some ⟨w1.heap.size+1+1,0,none⟩),.pointer (some ⟨w1.heap.size+1+1+1+1,0,none⟩),.pointer (some ⟨eb,0,none⟩),.pointer (some ⟨w1.heap.size+1+1+1,0,none⟩)]] 203)=W5
 have s1:W1.heap.size=w1.heap.size+1:=by rw[<-e1,World.size_alloc]
 have s2:W2.heap.size=w1.heap.size+2:=by rw[<-e2,World.size_alloc,s1]
 have s3:W3.heap.size=w1.heap.size+3:=by rw[<-e3,World.size_alloc,s2]
 have s4:W4.heap.size=w1.heap.size+4:=by rw[<-e4,World.size_alloc,s3]
 have s5:W5.heap.size=w1.heap.size+5:=by rw[<-e5,World.size_alloc,s4]
 have x1:Ext w1 W1:=by rw[<-e1];infer_instance
 have x2:Ext W1 W2:=by rw[<-e2];infer_instance
 have x3:Ext W2 W3:=by rw[<-e3];infer_instance
 have x4:Ext W3 W4:=by rw[<-e4];infer_instance
 have x5:Ext W4 W5:=by rw[<-e5];infer_instance
 have h1:=heap_alloc_new w1 (.cells #[.slice mA (n+1) mc,.slice lA n lc] 201);have h2:=heap_alloc_new W1 (.cells (Zc #[.int .i64 0] n) 2);have h3:=heap_alloc_new W2 (.cells #[.slice (some ⟨w1.heap.size+1,0,none⟩) n n] 28);have h4:=heap_alloc_new W3 (.cells #[.slice none 0 0] 25);have h5:=heap_alloc_new W4 (.cells #[.func (.func 155) #[] #[.pointer (some ⟨w1.heap.size,0,none⟩),.pointer (some ⟨w1.heap.size+1+1,0,none⟩),.pointer (some ⟨w1.heap.size+1+1+1+1,0,none⟩),.pointer (some ⟨eb,0,none⟩),.pointer (some ⟨w1.heap.size+1+1+1,0,none⟩)]] 203)
 rw[e1]at h1;rw[e2,s1]at h2;rw[e3,s2]at h3;rw[e4,s3]at h4;rw[e5,s4]at h5;have x35:=x4.trans x5;have x25:=x3.trans x35;have x15:=x2.trans x25;refine⟨⟨List.replicate n 0,?_,by simp,by simp;omega⟩,x1.trans x15,zj x15 h1,zj x35 h3,zj x5 h4,h5,heb,hec,LOwn.nil _ _,by omega⟩;have:(Zc #[.int .i64 0] n)=((List.replicate n (0:Int)).map (Value.int .i64)).toArray:=by
  apply Array.ext';rw[jt];simp
 rw[this]at h2;exact zj x25 h2
theorem zlU(h:MatA w0 A m)(h2:2<=m.length)(hf:FormOK m)(h64:zam m)(hb0:0<=za)(hb1:za<1073741824)(zrT:(Zw (zm m m.length) (zr m m.length) exact (m.length-1) (vD (zm m m.length) m.length*za) true []).length<=1073741824)[hx:Ext w0 w]:
  Cq 104 #[.slice A m.length c,.int .i64 za,.bool exact] w (Ji w (Zw (zm m m.length) (zr m m.length) exact (m.length-1) (vD (zm m m.length) m.length*za) true [])):=by
 have hN:=hf.num za hb0 hb1;have h8:=hN.n8;have hnf:=fun W(hh:Ext w0 W)=>zlM (w:=W) (c:=c) h hf.len1 h8 hf.all hf.fits hf.elim h64
 have hDl:(zm m m.length).length=m.length+1:=zaW m _;have hLl:(zr m m.length).length=m.length:=by simp[zr]
 obtain⟨D,hD⟩:=Xz (zm m m.length);obtain⟨L,hL⟩:=Xz (zr m m.length);rw[<-hD,<-hL]at hnf hN zrT|-
 rw[<-hD]at hDl;rw[<-hL]at hLl;unfold zgg at hnf;rw[hDl,hLl]at hnf;obtain⟨n,hn⟩:=Xz m.length;rw[<-hn]at hnf hN hDl hLl h2 h8 zrT|-
 obtain⟨dn,hdn⟩:=Xz (vD D n);have e1:=hN.d1 n (by omega);have e2:=hN.d2 n (by omega);rw[<-hdn]at e1 e2 zrT|-
 have hm1:0<=dn*za:=Int.mul_nonneg (by omega) (by omega);have hm2:dn*za<=65535*1073741823:=Int.mul_le_mul (by omega) (by omega) (by omega) (by omega);have ztj:LevOK D n za (n-1) (dn*za) []:=⟨by omega,hm1,by rw[show n-1+1=n by omega,hdn];exact Int.le_refl _,by simp,by simp[zZ]⟩;obtain⟨rest,zsS⟩:=Yz (dn*za);rw[zsS]at hm1 hm2 ztj zrT|-
 have hdi:D[n]? =some dn:=by rw[hdn];unfold vD;simp[show n<D.length by omega]
 have HNF:=Zh hnf;have HDL:=Zh hDl;have zru:=Zh ztj;have zqS:=Zh zrT;have HDI:=Zh hdi;have hne:((n:Int)==1)=false:=by simp;omega
 have hmk:=qe (P:=Tryz.prog) Tryz.underlying28 q9 (by omega) (n:Int) (by omega) (by omega);clear hnf hD hL hn hDl hLl ztj hdi hdn zrT hf h64;go_enter Tryz.func104,Tryz.ntmps104;go_wp2_with (go_at_call 154;refine(HNF.out _ Zi).mono ?_;clear HNF;rintro e w1 ⟨mA,mc,lA,lc,rfl,hD,hL,d1,d2,d3,d4,hs1⟩)
 have heb:w.heap.size<w1.heap.size:=by have:=hs1.size;simp at this;omega
 have hec:w1.cell? ⟨w.heap.size,0,none⟩=some (.bool exact):=zgj w _ _ 4;obtain⟨hX,hM⟩:=SMem.start (mA:=mA) (lA:=lA) (mc:=mc) (lc:=lc) (n:=n) (by omega) heb hec;generalize (((((w1.alloc (.cells #[.slice mA (n+1) mc,.slice lA n lc] 201)).alloc (.cells (Zc #[.int .i64 0] n) 2)).alloc (.cells #[.slice (some ⟨w1.heap.size+1,0,none⟩) n n] 28)).alloc (.cells #[.slice none 0 0] 25)).alloc (.cells #[.func (.func 155) #[] #[.pointer (some ⟨w1.heap.size,0,none⟩),.pointer (some ⟨w1.heap.size+1+1,0,none⟩),.pointer (some ⟨w1.heap.size+1+1+1+1,0,none⟩),.pointer (some ⟨w.heap.size,0,none⟩),.pointer (some ⟨w1.heap.size+1+1+1,0,none⟩)]] 203))=W at hX hM|-
 obtain⟨f1,f2,f3,f4,f5⟩:=zP hM.fb;have sb1:W.cell? ⟨w1.heap.size+1+1+1+1,0,none⟩=some (.func (.func 155) #[] #[.pointer (some ⟨w1.heap.size,0,none⟩),.pointer (some ⟨w1.heap.size+1+1,0,none⟩),.pointer (some ⟨w1.heap.size+1+1+1+1,0,none⟩),.pointer (some ⟨w.heap.size,0,none⟩),.pointer (some ⟨w1.heap.size+1+1+1,0,none⟩)]):=by
  have:W.cell? ⟨w1.heap.size+4,0,none⟩=some (.func (.func 155) #[] (Jj w1.heap.size w.heap.size)):=by simp[World.cell?,hM.sb]
  exact this
 obtain⟨bm,om,-,rfl,-⟩:=hD.at_ (i:=n) (by have:=HDL.out;omega);obtain⟨m3,m4⟩:=jR (hD.ext hM.ext) HDI.out;have zr4:=fun(W':World)hX' hM'=>zlS (exact:=exact) (eb:=w.heap.size) hD hL d1 d2 d3 d4 hN (n-1) rest true [] W' none 0 [] [] zru.out (fun _=>rfl) hX' hM' (by rw[nil_append];exact zqS.out)
 rw[show ((n-1:Nat):Int)=(n:Int)-1 by omega,nil_append]at zr4;unfold Jj at zr4;simp only[List.append_toArray,List.cons_append,nil_append]at zr4;have HC:=Zh zr4;have hfn:=zgi;unfold qG at hfn;have HX:=Zh hX;have HM:=Zh hM;have w1e:IntKind.i64.wrap ((n:Int)-1)=(n:Int)-1:=Iw;have w2e:IntKind.i64.wrap rest=rest:=Iw;clear zr4 hX hM;go_region_with (refine(HC.out _ HX.out.drew HM.out.drew).mono ?_;rintro e W3 ⟨rfl,hX4,lB4,c4,vs4,hM4⟩)
 all_goals (
  have lb4:W3.cell? ⟨w1.heap.size+1+1+1,0,none⟩=some (.slice lB4 (Zw D L exact (n-1) rest true []).length c4):=by
   have:W3.cell? ⟨w1.heap.size+3,0,none⟩=some (.slice lB4 (Zw D L exact (n-1) rest true []).length c4):=by simp[World.cell?,hM4.lb]
   exact this
  have zu6:w1.heap.size+1+1+1<W3.heap.size:=by have:=hM4.sz;omega
  have zrW:Ji w (Zw D L exact (n-1) rest true []) (.returned (.slice lB4 (Zw D L exact (n-1) rest true []).length c4)) W3:=by
   have hc:=hM4.ls.own.cap;have hxw:Ext w w1:=Zi;exact⟨lB4,c4,rfl,hM4.ls.mat,hc.1,hc.2,(hxw.trans hM4.ext).toStep⟩
  have HF:=Zh zrW;clear zrW hM4 hX4;generalize (Zw D L exact (n-1) rest true []).length=ln at lb4 HF|-
  go_wp2;go_ret;exact HF.out)
theorem zlV(h:MatA w0 A m)(hf:FormOK m)(h64:zam m)(hb0:0<=za)(hb1:1<m.length->za<1073741824)(hr:m.length=1->zt (za / ent m 0 0).toNat<=1048576)(zrT:(Zy m za exact).length<=1073741824)[hx:Ext w0 w]:
  Cq 104 #[.slice A m.length c,.int .i64 za,.bool exact] w (Ji w (Zy m za exact)):=by
 have h1:=hf.len1;by_cases hm:m.length=1
 ·have hN:=hf.num 0 (by omega) (by omega);have d1:=hN.d1 1 (by omega);have d2:=hN.d2 1 (by omega);have e:vD (zm m m.length) 1=ent m 0 0:=by rw[hm];simp[vD,zm,zo]
  rw[e]at d1 d2;exact zlT h hm (by have:=hf.all;rwa [hm]at this) d1 d2 hb0 (hr hm)
 ·have e:Zy m za exact=Zw (zm m m.length) (zr m m.length) exact (m.length-1) (vD (zm m m.length) m.length*za) true []:=by rw[Zy,if_neg hm]
  rw[e]at zrT|-
  exact zlU h (by omega) hf h64 hb0 (hb1 (by omega)) zrT
def qm(st:List Int):Int:=st.getD (st.length-1) 0
theorem zlW(h:Ints w0 A 3 .i64 st)(h1:1<=st.length)(h2:st.length<=1099511627776)(l1:1<=qm st)(l2:qm st<=1099511627776)[hx:Ext w0 w]:
  Cq 102 #[.slice A st.length c] w (Zu w (.int .i64 ((qm st-1) / 2))):=by
 obtain⟨b,o,x,rfl,hx',g1,g2⟩:=(h.ext hx).at_ (i:=st.length-1) (by omega);have he:qm st=x:=by unfold qm;simp[hx']
 rw[he]at l1 l2|-
 obtain⟨n,hn⟩:∃n,st.length=n+1:=⟨st.length-1,by omega⟩;rw[hn]at h2 g1|-
 simp only[Nat.add_sub_cancel]at g1;clear hn he hx' h h1;go_enter Tryz.func102,Tryz.ntmps102;go_wp2;go_ret;exact⟨rfl,rfl⟩
structure EnumOK(m:List (List Int))(za:Int)(exact:Bool):Prop where
 form:FormOK m
 s64:zam m
 red:RedM m
 b0:0<=za
 b1:1<m.length->za<1073741824
 one:m.length=1->zt (za / ent m 0 0).toNat<=1048576
 len:(Zy m za exact).length<=1073741824
 vec:∀x∈Zy m za exact,VecOK m x
 nd:((Zy m za exact).map zR).Nodup
def zlX(w:World)(m ls:List (List Int))(total:Int)(e:Ending)(w':World):Prop:=∃A c L,e= .returned (.tuple #[.slice A (List.length L) c,.int .i64 total,.int .i64 0])/\Mat64 w' A L/\L.length<=c/\c<=9223372036854775807/\L.Perm (ls.map zR)/\L.Pairwise (fun x y=>qK (zh m x) (zh m y) x y<0)/\Step w w'
theorem zb0(l:List Int)(k:Nat)(x:Int)(h:l[k]? =some x):(l.take (k+1)).sum=(l.take k).sum+x:=by
 rw[List.take_add_one,h];simp
theorem zlY(l:List Int)(hb:∀x∈l,0<=x/\x<=1099511627776)(k:Nat):0<=(l.take k).sum/\(l.take k).sum<=k*1099511627776:=by
 induction k with
 |zero=>simp
 |succ k ih=>
  cases h:l[k]? with
  |none=>rw[List.take_add_one,h];simp;omega
  |some x=>
   rw[zb0 l k x h];have:=hb x (Zm h);omega
theorem zgk{budget:Int}(h:MatA w0 A m)(hc:m.length<=c)(hc2:c<=9223372036854775807)(hok:EnumOK m za false)(hs:qJ m za budget=(st,0))(h1:1<=st.length)(h2:st.length<=8)(l1:1<=qm st)(hb:∀x∈st,0<=x/\x<=1099511627776)(hsm:(qm st-1) / 2<=4096)[hx:Ext w0 w]:
  Cq 60 #[.slice A m.length c,.int .i64 za,.int .i64 budget] w (zlX w m (Zy m za false) st.sum):=by
 have hn8:=hok.red.n8;have l2:qm st<=1099511627776:=by omega
 have hst:=fun W(hh:Ext w0 W)=>zlc (w:=W) (za:=za) (budget:=budget) h (by omega) hc hc2 (fun _=>hok.form)
 rw[hs]at hst;have HST:=Zh hst;have hpa:=fun W A' c'(hI:Ints W A' 3 .i64 st)=>zlW (w:=W) (c:=c') hI h1 (by omega) l1 l2
 have HP:=Zh hpa;obtain⟨q,hq⟩:=Yz ((qm st-1) / 2);rw[hq]at HP hsm;have hb':decide (4096<q)=false:=by simp;omega
 have hco:=fun W(hh:Ext w0 W)=>zlV (w:=W) (c:=c) h hok.form hok.s64 hok.b0 hok.b1 hok.one hok.len
 have HCO:=Zh hco;have hso:=fun W X d(hh:Ext w0 W)(hX:Mat64 W X (Zy m za false))=>zlE (w0:=W) (w:=W) (c:=c) (d:=d) (h.ext hh) hc hc2 hX hok.len hok.red hok.vec hok.nd
 have HSO:=Zh hso;obtain⟨ls,hls⟩:=Yz (Zy m za false);rw[hls]at HCO HSO|-
 have HB:=Zh hb;clear hst hpa hs hq hco hso hls hok hb;go_enter Tryz.func60,Tryz.ntmps60;go_wp2_with (first
  |(go_at_call 101;refine(HST.out _ Zi).mono ?_;rintro e w1 ⟨A1,c1,rfl,hI,k1,k2,hs1⟩)
  |(go_at_call 102;refine(HP.out _ _ _ hI).mono ?_;rintro e w2 ⟨rfl,rfl⟩))
 go_loop [11,13,31] (fun s _ i=>∃k:Nat,k<=st.length/\i= .int .i64 k/\s= .int .i64 (st.take k).sum) (fun _ _ i=>st.length-(intOf i).toNat)
 case atStart=>exact⟨0,by omega,rfl,by simp⟩
 case round=>
  obtain⟨k,hk,rfl,rfl⟩:=hrel;have hbd:=zlY st HB.out k;by_cases hlt:k<st.length
  ·obtain⟨b,o,x,rfl,hx',g1,g2⟩:=hI.at_ hlt;have hxb:=HB.out x (Zm hx');have HS:=Zh (zb0 st k x hx');obtain⟨s,hs⟩:=Xz ((st.take k).sum);rw[<-hs]at hbd HS|-
   have b1:s<=8*1099511627776:=by omega
   obtain⟨b0,-⟩:=hbd;obtain⟨x0,x1⟩:=hxb;clear hs hx';go_wp2;exact⟨⟨k+1,by omega,by go_num,by rw[HS.out]⟩,by simp[intOf];omega⟩
  ·have htk:st.take k=st:=List.take_of_length_le (by omega);rw[htk]at hbd|-
   obtain⟨s,hs⟩:=Xz st.sum;have hsb:0<=s/\s<=8*1099511627776:=by rw[hs];omega
   rw[<-hs];have HS:=Zh hs;clear hs htk hbd;go_wp2_with (first
    |(go_at_call 104;refine(HCO.out _ Zi).mono ?_;rintro e w3 ⟨A3,c3,rfl,hM3,k3,k4,hs3⟩)
    |(go_at_call 103;refine(HSO.out _ _ _ Zi hM3).mono ?_;rintro e w4 ⟨A4,c4,L,rfl,hM4,k5,k6,hp,hw,hs4⟩))
   go_ret3
   exact⟨A4,c4,L,by rw[<-HS.out];rfl,hM4,k5,k6,hp,hw,Step.of _ _⟩
def m1:List (List Int):=[[1]]
def m2:List (List Int):=[[2,1],[1,2]]
theorem zlZ:zm m2 2=[1,2,3]:=by decide
theorem zl0:zr m2 2=[[1],[]]:=by decide
theorem zgl:AllLen m2 m2.length:=by unfold AllLen;decide
theorem zgm:RedM m2:=⟨by decide,zgl,by unfold zc0;decide,by decide⟩
theorem zl1(za:Int)(h0:0<=za)(h1:za<1073741824):NumOK (zm m2 2) (zr m2 2) 2 za:=by
 rw[zlZ,zl0];exact⟨by decide,rfl,rfl,by decide,by decide,by decide,by decide,h0,h1⟩
theorem lt2(h:k<2):k=0∨k=1:=by omega
theorem zl2:ElimOK m2:=by
 refine⟨fun i j hi hj=>?_,fun k hk=>?_,fun k i j hi hj=>?_⟩
 ·rcases lt2 hi with rfl|rfl<;>rcases lt2 hj with rfl|rfl<;>decide
 ·have hk:k+1<2:=hk;obtain rfl:k=0:=by omega
  decide
 ·have hi:i+1<2-k:=hi;have hj:j+1<2-k:=hj;obtain rfl:k=0:=by omega
  obtain rfl:i=0:=by omega
  obtain rfl:j=0:=by omega
  unfold zcX;decide
theorem zl3:zbT m2:=by
 intro k hk j hj;have hj:j<2-k:=hj;rcases lt2 hk with rfl|rfl
 ·rcases lt2 hj with rfl|rfl<;>decide
 ·obtain rfl:j=0:=by omega
  decide
theorem zl4:FormOK m2:=⟨by decide,zgl,by unfold qP;decide,zl2,zl3,zl1⟩
theorem zl5:zam m2:=by
 intro k hk;rcases lt2 hk with rfl|rfl<;>(unfold qP;decide)
theorem zgn:Zy m2 2 false=[[1,0],[-1,1],[0,1]]:=by decide
theorem zl6:qJ m2 2 100=([3,7],0):=by decide
theorem zl7:EnumOK m2 2 false:=by
 refine⟨zl4,zl5,zgm,by decide,by decide,by decide,by decide,?_,by decide⟩;rw[zgn];intro x hx;simp only[List.mem_cons,List.not_mem_nil,or_false]at hx;rcases hx with rfl|rfl|rfl<;>exact⟨by decide,by decide,by decide⟩
theorem zl8{T ls:List (List Int)}(hp:L.Perm (ls.map zR))(hw:L.Pairwise (fun x y=>qK (zh m x) (zh m y) x y<0))(hT:T.Pairwise (fun x y=>qK (zh m x) (zh m y) x y<0))(hpT:T.Perm (ls.map zR))(anti:∀a∈T,∀b∈T,qK (zh m a) (zh m b) a b<0->qK (zh m b) (zh m a) b a<0->a=b):L=T:=by
 have hq:=hp.trans hpT.symm;exact List.Perm.eq_of_pairwise (fun a b ha hb=>anti a (hq.mem_iff.1 ha) b hb) hw hT hq
theorem zgo(w:World)(a b c d:Int):Mat64 (((w.alloc (.cells #[.int .i64 a,.int .i64 b] 2)).alloc (.cells #[.int .i64 c,.int .i64 d] 2)).alloc (.cells #[.slice (some ⟨w.heap.size,0,none⟩) 2 2,.slice (some ⟨w.heap.size+1,0,none⟩) 2 2] 28)) (some ⟨w.heap.size+1+1,0,none⟩) [[a,b],[c,d]]:=by
 have h1:Ints (w.alloc (.cells #[.int .i64 a,.int .i64 b] 2)) (some ⟨w.heap.size,0,none⟩) 2 .i64 [a,b]:=Arr.new w 2 #[.int .i64 a,.int .i64 b];have h2:Ints ((w.alloc (.cells #[.int .i64 a,.int .i64 b] 2)).alloc (.cells #[.int .i64 c,.int .i64 d] 2)) (some ⟨w.heap.size+1,0,none⟩) 2 .i64 [c,d]:=by
  have:=Arr.new (w.alloc (.cells #[.int .i64 a,.int .i64 b] 2)) 2 #[.int .i64 c,.int .i64 d];rwa [World.size_alloc]at this
 have h3:=Arr.new ((w.alloc (.cells #[.int .i64 a,.int .i64 b] 2)).alloc (.cells #[.int .i64 c,.int .i64 d] 2)) 28 #[.slice (some ⟨w.heap.size,0,none⟩) 2 2,.slice (some ⟨w.heap.size+1,0,none⟩) 2 2];rw[World.size_alloc,World.size_alloc]at h3;refine⟨_,rfl,h3,fun i r hr=>?_⟩;match i with
 |0=>obtain rfl:[a,b]=r:=by simpa using hr
     exact⟨_,2,rfl,h1.ext Zi,by simp,by omega⟩
 |1=>obtain rfl:[c,d]=r:=by simpa using hr
     exact⟨_,2,rfl,h2.ext Zi,by simp,by omega⟩
 |i+2=>simp at hr
def jg:List (List Int):=[[0,1],[1,-1],[1,0]]
theorem zl9(hp:L.Perm ((Zy m2 2 false).map zR))(hw:L.Pairwise (fun x y=>qK (zh m2 x) (zh m2 y) x y<0)):L=jg:=by
 refine zl8 hp hw (by decide) ?_ (by decide);rw[zgn];decide
end Go.Proofs.YtcmkopogafchiaaGreat

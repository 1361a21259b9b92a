import Derived.Test.YtpcgfpmiphiacaaGreatC08
set_option maxHeartbeats 8000000
set_option linter.unusedVariables false
set_option linter.unusedSimpArgs false
namespace Go.Proofs.YtpcgfpmiphiacaaGreat
open Go.RowKit
open List (length_append append_assoc nil_append drop_eq_nil_iff)
variable {exact:Bool} {za:Int} {L l m:List (List Int)} {st tail:List Int} {vs:List Value} {c d eb k lc mc n sz:Nat} {A lA lB mA:Option Addr} {W w w0 w1:World}
def Jl(s eb:Nat):Array Value:=#[.pointer (some ⟨s,0,none⟩),.pointer (some ⟨s+2,0,none⟩),.pointer (some ⟨s+4,0,none⟩),.pointer (some ⟨eb,0,none⟩),.pointer (some ⟨s+3,0,none⟩)]
structure SMem(w1 W:World)(n:Nat)(mA lA:Option Addr)(mc lc eb:Nat)(exact:Bool)(lB:Option Addr)(c:Nat)(l:List (List Int))(vs:List Value):Prop where
 ext:Ext w1 W
 fb:W.heap[w1.heap.size]? =some (.cells #[.slice mA (n+1) mc,.slice lA n lc] 204 (0,0))
 xb:W.heap[w1.heap.size+2]? =some (.cells #[.slice (some ⟨w1.heap.size+1,0,none⟩) n n] 35 (0,0))
 lb:W.heap[w1.heap.size+3]? =some (.cells #[.slice lB l.length c] 25 (0,0))
 sb:W.heap[w1.heap.size+4]? =some (.cells #[.func (.func 139) #[] (Jl w1.heap.size eb)] 206 (0,0))
 ebl:eb<w1.heap.size
 ec:w1.cell? ⟨eb,0,none⟩=some (.bool exact)
 ls:LOwn W (w1.heap.size+5) lB c l vs
 sz:w1.heap.size+5<=W.heap.size
theorem SMem.setX(h:SMem w1 W n mA lA mc lc eb exact lB c l vs)(i:Nat)(u:Value):SMem w1 (W.setCell ⟨w1.heap.size+1,i,none⟩ u) n mA lA mc lc eb exact lB c l vs where
 ext:=h.ext.setCell (p:=⟨w1.heap.size+1,i,none⟩) (Nat.le_succ _) u
 fb:=qe h.fb (show w1.heap.size≠w1.heap.size+1 by omega) u
 xb:=qe h.xb (show w1.heap.size+2≠w1.heap.size+1 by omega) u
 lb:=qe h.lb (show w1.heap.size+3≠w1.heap.size+1 by omega) u
 sb:=qe h.sb (show w1.heap.size+4≠w1.heap.size+1 by omega) u
 ebl:=h.ebl
 ec:=h.ec
 ls:=h.ls.set (p:=⟨w1.heap.size+1,i,none⟩) (show w1.heap.size+1<w1.heap.size+5 by omega) u
 sz:=by rw[qy];exact h.sz
theorem XRow.put0(h:XRow w sz n k tail)(x:Int):XRow (w.setCell ⟨sz,k,none⟩ (.int .i64 x)) sz n k tail:=by
 obtain⟨xs,h1,h2,h3⟩:=h;exact⟨_,h1.set k x,by simp[h2],by rw[List.drop_set_of_lt (by omega),h3]⟩
theorem XRow.full(h:XRow w sz n k tail)(hk:k=0)(hn:k<n)(x:Int):Row (w.setCell ⟨sz,k,none⟩ (.int .i64 x)) sz 2 .i64 (x::tail)/\(x::tail).length=n:=by
 subst hk;obtain⟨xs,h1,h2,h3⟩:=h
 cases xs with
 |nil=>simp at h2;omega
 |cons y ys=>
  simp at h3;subst h3;exact⟨h1.set 0 x,by simpa using h2⟩
theorem zlX{b:Nat}{x u:Value}{T:TypeId}(h:w.heap[b]? =some (.cells #[x] T (0,0))):(w.setCell ⟨b,0,none⟩ u).heap[b]? =some (.cells #[u] T (0,0)):=by
 rw[Zo h];rfl
theorem SMem.snoc{W3 w4:World}(h:SMem w1 W n mA lA mc lc eb exact lB c l vs)(hx:Ext W W3){A4 B:Option Addr}{d4:Nat}{r:List Int}(hg:Grow (w1.heap.size+5) 35 W3 w4)(ho:Own w4 (w1.heap.size+5) 35 1 A4 (l.length+1) d4 (vs++[.slice B r.length d]))(hr:ArrX (w1.heap.size+5) W3 B 2 (r.map (Value.int .i64)))(h1:r.length<=d)(h2:d<=9223372036854775807):
  SMem w1 (w4.setCell ⟨w1.heap.size+3,0,none⟩ (.slice A4 (l.length+1) d4)) n mA lA mc lc eb exact A4 d4 (l++[r]) (vs++[.slice B r.length d]):=by
 have hk:∀b,b<w1.heap.size+5->∀o,W.heap[b]? =some o->w4.heap[b]? =some o:=fun b hb o ho=>(hg.below.block b hb).trans (zj hx ho)
 refine⟨?_,?_,?_,?_,?_,h.ebl,h.ec,?_,?_⟩
 ·exact(hg.ext (h.ext.trans hx) (by omega)).setCell (p:=⟨w1.heap.size+3,0,none⟩) (by simp) _
 ·exact qe (hk _ (by omega) _ h.fb) (show w1.heap.size≠w1.heap.size+3 by omega) _
 ·exact qe (hk _ (by omega) _ h.xb) (show w1.heap.size+2≠w1.heap.size+3 by omega) _
 ·rw[length_append];exact zlX (hk _ (by omega) _ h.lb)
 ·exact qe (hk _ (by omega) _ h.sb) (show w1.heap.size+4≠w1.heap.size+3 by omega) _
 ·exact(h.ls.snoc hx hg ho hr h1 h2).set (p:=⟨w1.heap.size+3,0,none⟩) (show w1.heap.size+3<w1.heap.size+5 by omega) _
 ·rw[qy];have:=h.sz;have:=hx.size;have:=hg.below.size;omega
def zlY(w1:World)(n:Nat)(mA lA:Option Addr)(mc lc eb:Nat)(exact:Bool)(l:List (List Int))(k:Nat)(tail:List Int)(e:Ending)(W':World):Prop:=
 e= .returned (.tuple #[])/\XRow W' (w1.heap.size+1) n k tail/\∃lB c vs,SMem w1 W' n mA lA mc lc eb exact lB c l vs
theorem zgq:qJ 139:=JJ Tryz.func139 (by kernel_rfl) (by kernel_rfl)
theorem SMem.took{wS W5 w6:World}{ln s5:Nat}{t t':List (List Int)}{x:Int}{A6 B5:Option Addr}{d5 d6:Nat}
  (hM:SMem w1 wS n mA lA mc lc eb exact lB c (l++t) vs) (hX:XRow wS (w1.heap.size+1) n k tail) (hs:Ext wS W5) (hO:Own W5 s5 2 1 B5 (x::tail).length d5 ((x::tail).map (Value.int .i64))) (hs5:w1.heap.size+5<=s5) (hn:(x::tail).length=n) (hl:(l++t).length=ln)
  (ho:Own w6 (w1.heap.size+5) 35 1 A6 (ln+1) d6 (vs++[.slice B5 n d5])) (hg:Grow (w1.heap.size+5) 35 (W5.alloc (.cells #[.slice B5 n d5] 35)) w6) (ht:t'=t++[x::tail]):
  XRow (w6.setCell ⟨w1.heap.size+3,0,none⟩ (.slice A6 (ln+1) d6)) (w1.heap.size+1) n k tail/\SMem w1 (w6.setCell ⟨w1.heap.size+3,0,none⟩ (.slice A6 (ln+1) d6)) n mA lA mc lc eb exact A6 d6 (l++t') (vs++[.slice B5 n d5]):=by
 subst hl ht;have hx:Ext wS (W5.alloc (.cells #[.slice B5 n d5] 35)):=Ext.alloc _ _ _;have hc:=hO.cap;constructor
 ·refine hX.keep ?_;rw[Below.heap_setCell _ _ _ _ (show w1.heap.size+1≠w1.heap.size+3 by omega),hg.below.block _ (by omega)];exact hx.below.block _ (by have:=hM.sz;omega)
 ·have:=hM.snoc hx (r:=x::tail) (B:=B5) (d:=d5) hg (by rw[hn];exact ho) ((hO.arrX.lower hs5).ext (Ext.alloc _ _ _)) hc.1 hc.2;rw[<-append_assoc];rw[hn]at this;exact this
set_option maxRecDepth 100000 in
theorem zlZ{D:List Int}(hD:Ints w1 mA 2 .i64 D)(hL:Mat64 w1 lA L)(hmc:n+1<=mc)(zxZ:mc<=9223372036854775807)(hlc:n<=lc)(zx0:lc<=9223372036854775807)(hN:NumOK D L n za)(k:Nat):
  ∀(rest:Int)(zero:Bool)(tail:List Int)(W:World)(lB:Option Addr)(c:Nat)(l:List (List Int))(vs:List Value),LevOK D n za k rest tail->(zero=true->z8 tail=0)->XRow W (w1.heap.size+1) n k tail->SMem w1 W n mA lA mc lc eb exact lB c l vs->(l++Zy D L exact k rest zero tail).length<=1073741824->
   Cq 139 (#[.int .i64 k,.int .i64 rest,.bool zero]++Jl w1.heap.size eb) W (zlY w1 n mA lA mc lc eb exact (l++Zy D L exact k rest zero tail) k tail):=by
 induction k using Nat.strongRecOn with
 |ind k ih=>
  intro rest zero tail W lB c l vs hLv hz hX hM zr7;have hkn:=hLv.kn;have hn8:=hN.n8;obtain⟨f1,f2,-,-,f5⟩:=zQ hM.fb;have xb1:W.cell? ⟨w1.heap.size+2,0,none⟩=some (.slice (some ⟨w1.heap.size+1,0,none⟩) n n):=by simp[World.cell?,hM.xb]
  have sb1:W.cell? ⟨w1.heap.size+4,0,none⟩=some (.func (.func 139) #[] (Jl w1.heap.size eb)):=by simp[World.cell?,hM.sb]
  obtain⟨xs,zr6,hxl,hxd⟩:=id hX;have hdl:=hN.dl;have hll:=hN.ll;have hd0:D[k]? =some (vD D k):=by unfold vD;simp[show k<D.length by omega]
  have zvq:D[k+1]? =some (vD D (k+1)):=by unfold vD;simp[show k+1<D.length by omega]
  obtain⟨bm,om,-,rfl,-⟩:=hD.at_ (i:=k) (by omega);obtain⟨m3,m4⟩:=jV (hD.ext hM.ext) hd0;obtain⟨m1,-⟩:=jV (hD.ext hM.ext) zvq;obtain⟨bl,ol,B,cl,rfl,l3,l5,l1,l2,l4⟩:=(hL.ext hM.ext).at_ (i:=k) (r:=L.getD k []) (by simp[show k<L.length by omega]);have hrl:=hN.row k hkn;obtain⟨lam,ztg⟩:=Xz (L.getD k []);rw[hrl]at l1 l3;rw[<-ztg]at hrl l5;have HL5:=Zh l5;have zq4:=Zh ztg;have HRL:=Zh hrl
  have hsq:=zb2 hN hLv;have hR:=jW hN hLv;have hd1:=hN.d1 (k+1) (by omega);have hd2:=hN.d2 (k+1) (by omega);obtain⟨sqn,zth⟩:=Xz ((ZK D k rest).toNat);have ztJ:vD D k*rest=(sqn:Int):=by have:=hsq.1;rw[zth];unfold ZK at this|-;omega
  have zwq:sqn<4611686018427387904:=by have:=hsq.2;omega
  have HSQ:Hid (ZK D k rest=(sqn:Int)):=Zh ztJ;have HRT:Hid (vR D k rest=(zv sqn:Nat)):=Zh (by rw[zth];rfl);have zwr:zv sqn<2147483648:=by have:=hR.2.1;rw[HRT.out]at this;omega
  obtain⟨r,hr⟩:=Xz (n-1-k);rw[<-hr]at l1 l3 HRL;have HRR:=Zh hr;have hr1:r+k+1<=n:=by omega
  have hr2:n<=r+k+1:=by omega
  obtain⟨d,hd⟩:=Xz (vD D (k+1));rw[<-hd]at m1 hd1 hd2;have HD:=Zh hd;obtain⟨dk,hdk⟩:=Xz (vD D k);rw[<-hdk]at m3 ztJ;have HXD:=Zh hxd;have zqY:=Zh zr6;have HM:=Zh hM;have HX:=Zh hX;have HZ:=Zh hz;have HLV:=Zh hLv;have zq5:=Zh zr7;have bw:w1.heap.size+1<W.heap.size:=by have:=hM.sz;omega
  clear hr hd hdk zth hsq hR hxd hdl hll hd0 zvq ztg hrl hX hM hz zr7 l5;unfold Jl at sb1|-
  go_enter Tryz.func139,Tryz.ntmps139;go_wp2_with fail
  go_loop [12,13,14,34] (fun s _ _ i=>∃q:Nat,q<=r/\i= .int .i64 q/\s= .int .i64 (zG (lam.take q) (tail.take q))) (fun _ _ _ i=>r-(intOf i).toNat)
  case atStart=>exact⟨0,by omega,rfl,by simp[zG]⟩
  case round=>
   obtain⟨q,hq,rfl,rfl⟩:=hrel;by_cases hlt:q<r
   ·obtain⟨a,ha⟩:∃a,lam[q]? =some a:=⟨_,Ze (by have:=HRL.out;omega)⟩;obtain⟨y,hy⟩:∃y,tail[q]? =some y:=⟨_,Ze (by have:=hLv.tl;have:=HRR.out;omega)⟩;obtain⟨b1,o1,-,rfl,-⟩:=HL5.out.at_ (i:=q) (by have:=HRL.out;omega);obtain⟨g1,g2⟩:=jV HL5.out ha;have hxy:xs[k+1+q]? =some y:=by rw[<-hy,<-HXD.out,List.getElem?_drop]
    obtain⟨y',hy1,hy2⟩:=zr6.cell (i:=k+1+q) (by rw[hxl];omega);rw[hxy]at hy1;injection hy1 with hy1
    subst hy1;have hdv:=hN.d2 (k+1) (by omega);have ba:=hN.lam k hkn a (by rw[<-zq4.out];exact Zm ha);have bb:=JO tail q y hy;have bS:=jX hN hLv;have bs:=zag (A:=32768) (B:=549755813888) (by omega) (by omega) (lam.take q) (tail.take q) (fun z hz=>by have:=hN.lam k hkn z (by rw[<-zq4.out];exact List.mem_of_mem_take hz);omega) (fun z hz=>by
     obtain⟨j,hj,e⟩:=List.getElem_of_mem (List.mem_of_mem_take hz);have:=JO tail j z (by simp[hj,e]);omega)
    have bm:=Qx (a:=a) (b:=y) (A:=32768) (B:=549755813888) (by omega) (by omega) (by omega) (by omega);have zsS:=Zh (za3 lam tail q a y ha hy);have htl:(lam.take q).length<=8:=by rw[List.length_take];omega
    obtain⟨s,hs⟩:=Xz (zG (lam.take q) (tail.take q));rw[<-hs]at bs zsS|-
    have bs1:-144115188075855872<=s:=by omega
    have bs2:s<=144115188075855872:=by omega
    obtain⟨bm1,bm2⟩:=bm;have bm3:-18014398509481984<=a*y:=by omega
    have bm4:a*y<=18014398509481984:=by omega
    clear hdv ba bb bS bs bm1 bm2 hs ha hy hxy htl;go_wp2_with fail
    refine⟨⟨q+1,by omega,by go_num,by rw[zsS.out]⟩,by simp[intOf]<;>omega⟩
   ·obtain rfl:q=r:=by omega
    clear hlt;have e1:lam.take q=lam:=List.take_of_length_le (by have:=HRL.out;omega);have e2:tail.take q=tail:=List.take_of_length_le (by have:=hLv.tl;have:=HRR.out;omega);rw[e1,e2];clear e1 e2;have zuG:Hid (zG lam tail=qK L k tail):=Zh (by rw[zq4.out];rfl);rw[zuG.out];obtain⟨sh,hsh⟩:=Xz (qK L k tail);have bsh:=zdg hN hLv;have bmS:=zfU hN hLv;rw[<-hsh]at bsh|-
    have bsh1:-36028247263150080<=sh:=by omega
    have bsh2:sh<=36028247263150080:=by omega
    have HSH:=Zh hsh;obtain⟨p,hp⟩:∃p,p=((zv sqn:Int)+sh) / d:=⟨_,rfl⟩;obtain⟨hi,hhi⟩:∃hi,hi=((zv sqn:Int)-sh) / d:=⟨_,rfl⟩;have HLO:Hid (zY D L k rest tail=-p):=Zh (by rw[hp,hsh,HD.out,zY,HRT.out]);have HHI:Hid (Z4 D L k rest tail=hi):=Zh (by rw[hhi,hsh,HD.out,Z4,HRT.out]);have ztK:=JP hN hLv;have zsT:=JQ hN hLv;have hSb:=jX hN hLv;have zq2:Hid (Zc D L k rest tail=hi+p+1):=Zh (by rw[Zc,HLO.out,HHI.out];omega)
    rw[HLO.out,HHI.out,HRT.out]at ztK;rw[zq2.out]at zsT;have hp1:-1099511627776<=p:=by omega
    have hp2:p<=1099511627776:=by omega
    have hi1:-1099511627776<=hi:=by omega
    have hi2:hi<=1099511627776:=by omega
    have hq1:=hp.symm;have hq2:=hhi.symm;obtain⟨zvg,zvh⟩:=zsT;have zwJ:zero=true->0<=p:=fun h=>by have:=zlW hN hLv (HZ.out h);rw[HLO.out]at this;omega
    obtain⟨lo,zrg,zwK⟩:∃lo,Hid (Z5 D L k rest zero tail=lo)/\lo=if zero then 0 else-p:=⟨_,Zh rfl,by unfold Z5;rw[HLO.out]⟩
    clear bsh bmS ztK hSb hp hhi hsh;obtain⟨z,HZV⟩:∃z,Hid (z=zero):=⟨_,Zh rfl⟩;obtain⟨T,HT⟩:∃T:Nat->List (List Int),Hid (∀j,T j=jI D L exact k rest z tail j):=⟨_,Zh fun _=>rfl⟩;have HT1:Hid (∀j,T (j+1)=T j++JS D L exact k rest z tail (lo+(j:Int))):=Zh fun j=>by rw[HT.out,HT.out,zgp,HZV.out,zrg.out]
    have HTN:Hid (Zy D L exact k rest zero tail=T (hi-lo+1).toNat):=Zh (by rw[zlU,HT.out,HZV.out,jH,HHI.out,zrg.out]);have HTL:Hid (∀(x:Int)(j:Nat),x=lo+j->x<=hi->(l++T (j+1)).length<=1073741824):=Zh fun x j h1 h2=>by
     have hh:=zq5.out;rw[HTN.out,HT.out]at hh;have:=(zlV D L exact k rest z tail (i:=j+1) (j:=(hi-lo+1).toNat) (by omega)).length_le;rw[HT.out];simp only[length_append]at hh|-
     omega
    have hZ2:Hid (z=true->z8 tail=0):=Zh (by rw[HZV.out];exact HZ.out);rw[HTN.out];clear HZ zrg zq5
    cases zero
    all_goals (try simp only[if_true,if_false,Bool.false_eq_true,forall_const]at zwK zwJ)
    all_goals (
     go_wp2_with (first
      |(go_at_call 140;refine(zkQ (a:=sqn) (by omega)).mono ?_;rintro e w' ⟨rfl,rfl⟩)
      |(go_at_call 141;refine(zkP (by omega) (by omega) (by omega) (by omega)).mono ?_;rintro e w' ⟨rfl,rfl⟩)))
    all_goals (
     go_loopw [19,20,21,99,112] (fun sx _ _ _ _ wr=>∃(x:Int) (j:Nat),sx= .int .i64 x/\Hid (x=lo+j)/\lo<=x/\-p<=x/\(x<=hi+1∨j=0)/\XRow wr (w1.heap.size+1) n k tail/\∃lB c vs,SMem w1 wr n (some ⟨bm,om,none⟩) (some ⟨bl,ol,none⟩) mc lc eb exact lB c (l++T j) vs) (fun sx _ _ _ _ _=>(hi+1-intOf sx).toNat)
     case atStart=>
      refine⟨_,0,rfl,Zh (by omega),by omega,by omega,.inr rfl,HX.out,lB,c,vs,?_⟩;rw[HT.out];simpa[jI] using HM.out
     case round=>
      obtain⟨x,j,rfl,HXJ,hx1,hx2,hx3,hX2,lB2,c2,vs2,hM2⟩:=hrel;clear xb1 sb1 f1 f2 f5 m1 m3 m4 l2 l3 l4 zr6 zqY hxl HXD HM HX bw HL5;by_cases hlt:x<=hi
      ·have zsX:zY D L k rest tail<=x:=by rw[HLO.out];exact hx2
       have zsY:x<=Z4 D L k rest tail:=by rw[HHI.out];exact hlt
       have hub:=zdh hN hLv zsX zsY;obtain⟨ztL,zuH,-,-⟩:=zdi hN hLv zsX zsY;obtain⟨u,hu⟩:=Xz (d*x+sh);have HU:Hid (vU D L k tail x=u):=Zh (by rw[hu,HSH.out,HD.out];rfl);have HRS:Hid (qg D L k rest tail x=((sqn:Int)-u*u) / d):=Zh (by rw[qg,HU.out,HSQ.out,<-HD.out]);rw[HU.out]at hub ztL zuH;rw[HSQ.out]at ztL;rw[HRT.out]at hub;have hln:=HTL.out x j HXJ.out hlt;have xb2:wr.cell? ⟨w1.heap.size+2,0,none⟩=some (.slice (some ⟨w1.heap.size+1,0,none⟩) n n):=by simp[World.cell?,hM2.xb]
       have sb2:wr.cell? ⟨w1.heap.size+4,0,none⟩=some (.func (.func 139) #[] (Jl w1.heap.size eb)):=by simp[World.cell?,hM2.sb]
       have lb2:wr.cell? ⟨w1.heap.size+3,0,none⟩=some (.slice lB2 (l++T j).length c2):=by simp[World.cell?,hM2.lb]
       have ec2:wr.cell? ⟨eb,0,none⟩=some (.bool exact):=(World.cell?_of_block (hM2.ext.below.block eb hM2.ebl)).trans hM2.ec;have bw2:w1.heap.size+5<=wr.heap.size:=hM2.sz;have zx1:=hM2.ebl;obtain⟨xs2,zud,zvr,-⟩:=id hX2;obtain⟨y0,-,hc0⟩:=zud.cell (i:=k) (by omega);have hf0:=zud.frozen k;have hu':=hu.symm;have zwt:-2147483648<=u:=by omega
       have zwu:u<=2147483648:=by omega
       have hus:u*u<=4611686018427387904:=by omega
       have hdx:=Qx (a:=d) (b:=x) (A:=65536) (B:=2199023255552) (by omega) (by omega) (by omega) (by omega);have zwv:-144115188075855872<=d*x:=by omega
       have zww:d*x<=144115188075855872:=by omega
       by_cases hk0:k=0
       ·have hkb:¬((0:Int)<k):=by omega
        have zx2:k<1:=by omega
        have hX3:=hX2.put0 x;obtain⟨hR3,hRl⟩:=hX2.full hk0 hkn x;have hM3:=hM2.setX k (.int .i64 x);obtain⟨lf,hlf⟩:∃lf,lf=((sqn:Int)-u*u) / d:=⟨_,rfl⟩;have HLF:=Zh hlf;have HNX:Hid (T (j+1)=T j++if jh z exact x lf then [x::tail] else []):=Zh (by
         rw[HT1.out,<-HXJ.out,JS,if_pos hk0,HRS.out,hlf])
        have zx3:=hlf.symm;clear hub hu zsX zsY hdx zvr zud hlf;have HX3:=Zh hX3;have HR3:=Zh hR3;have HM3:=Zh hM3;have HLN:=Zh hln;have zqX:=Zh hRl;have HK0:=Zh hk0;clear hM2 hX2 hX3 hR3 hM3 hln hRl hk0;by_cases htk:jh z exact x lf=true
        ·have hT2:Hid (T (j+1)=T j++[x::tail]):=Zh (by rw[HNX.out];simp[htk]);have ztx:¬(z=true/\x=0)/\(exact=false∨(exact=true/\lf=0)):=by
          cases z<;>cases exact<;>by_cases hx0:x=0<;>by_cases hl0:lf=0<;>simp_all [jh]
         have zue:(z=false∨(z=true/\(x==0)=false))/\(exact=false∨(exact=true/\(lf==0)=true)):=by
          cases z<;>cases exact<;>by_cases hx0:x=0<;>by_cases hl0:lf=0<;>simp_all [jh]
         rw[HZV.out]at zue;simp only[Bool.false_eq_true,Bool.true_eq_false,false_and,true_and,false_or,or_false,true_or]at zue;clear htk HNX ztx;first
          |(obtain⟨zuf,he1⟩:=zue
            rcases he1 with rfl|⟨rfl,hl0⟩
            ·go_wp2_with fail
             generalize wr.setCell ⟨w1.heap.size+1,k,none⟩ (.int .i64 x)=wS at HX3 HR3 HM3|-
             obtain⟨ln,zsj⟩:=Yz ((l++T j).length);have zq6:=Zh zsj;have zsk:=HM3.out.lb;rw[zsj]at zsk;have lb3:wS.cell? ⟨w1.heap.size+3,0,none⟩=some (.slice lB2 ln c2):=by simp[World.cell?,zsk]
             have lf3:wS.frozen? ⟨w1.heap.size+3,0,none⟩=false:=by simp[World.frozen?,zsk]
             have zsp:=HM3.out.ls.own;rw[zsj]at zsp;have HO3:=Zh zsp;have HLB:=Zh zsk;have hle:ln+1<=1073741824:=by
              have:=HLN.out;rw[hT2.out,<-append_assoc,length_append,zsj]at this;simpa using this
             have xb3:wS.cell? ⟨w1.heap.size+2,0,none⟩=some (.slice (some ⟨w1.heap.size+1,0,none⟩) n n):=by simp[World.cell?,HM3.out.xb]
             have bw3:=HM3.out.sz;have oS3:Old (w1.heap.size+3) wS:=⟨by omega⟩;have hcl:=fun W(hxx:Ext wS W)=>za8 (w:=W) (c:=n) HR3.out.ints (by rw[zqX.out];omega)
             rw[zqX.out]at hcl;have HCL:=Zh hcl;clear hcl zsj lb2 zsk zsp;go_region_law (first
              |((refine QB _ rfl (.tmp 94) (.tmp 97) 25 rfl (w1.heap.size+5) 35 (.slice none 0 0) 1 24 Tryz.underlying25 Qc rfl (by decide) (by decide) lB2 ln c2 vs2 (by simp[Act.eval]) (HO3.out.ext Zi) (some ⟨W5.heap.size,0,none⟩) 1 1 [.slice B5 n d5] (by simp[Act.eval]) ((Arr.new W5 35 #[.slice B5 n d5]).ext Zi) rfl (by simp[Value.oneCell']) (by omega) (by have:=hs5.size;simp at this|-;omega) ?_);intro A6 d6 w6 zsd hg6;have hb6:=(hg6.below.block (w1.heap.size+3) (by omega)).trans (zj (Zi:Ext wS ((W5.alloc (Obj.cells #[Value.slice B5 n d5] 35)))) HLB.out);have q1:w6.cell? ⟨w1.heap.size+3,0,none⟩=some (.slice lB2 ln c2):=(by simp[World.cell?,hb6]);have q2:w6.frozen? ⟨w1.heap.size+3,0,none⟩=false:=(by simp[World.frozen?,hb6]);have q3:w1.heap.size+3<w6.heap.size:=zF hb6;clear hb6)
              |(go_simp;go_at_call 142;refine(HCL.out _ Zi).mono ?_;rintro e W5 ⟨B5,d5,rfl,hO5,hs5⟩;rw[zqX.out]))
             all_goals (
              obtain⟨hX6,hM6⟩:=SMem.took HM3.out HX3.out (Zi:Ext wS W5) hO5 HM3.out.sz zqX.out zq6.out zsd hg6 hT2.out;clear q1 q2 q3 zsd hg6 hO5 hs5 HCL HO3 HLB lb3 lf3 xb3;generalize w6.setCell ⟨w1.heap.size+3,0,none⟩ (.slice A6 (ln+1) d6)=w7 at hX6 hM6|-
              have HX6:=Zh hX6;have HM6:=Zh hM6;clear hX6 hM6;go_wp2_with fail
              exact⟨⟨x+1,j+1,rfl,Zh (by have:=HXJ.out;omega),by omega,by omega,.inl (by omega),HX6.out,A6,d6,_,HM6.out⟩,by simp[intOf]<;>omega⟩)
            ·go_wp2_with fail
             generalize wr.setCell ⟨w1.heap.size+1,k,none⟩ (.int .i64 x)=wS at HX3 HR3 HM3|-
             obtain⟨ln,zsj⟩:=Yz ((l++T j).length);have zq6:=Zh zsj;have zsk:=HM3.out.lb;rw[zsj]at zsk;have lb3:wS.cell? ⟨w1.heap.size+3,0,none⟩=some (.slice lB2 ln c2):=by simp[World.cell?,zsk]
             have lf3:wS.frozen? ⟨w1.heap.size+3,0,none⟩=false:=by simp[World.frozen?,zsk]
             have zsp:=HM3.out.ls.own;rw[zsj]at zsp;have HO3:=Zh zsp;have HLB:=Zh zsk;have hle:ln+1<=1073741824:=by
              have:=HLN.out;rw[hT2.out,<-append_assoc,length_append,zsj]at this;simpa using this
             have xb3:wS.cell? ⟨w1.heap.size+2,0,none⟩=some (.slice (some ⟨w1.heap.size+1,0,none⟩) n n):=by simp[World.cell?,HM3.out.xb]
             have bw3:=HM3.out.sz;have oS3:Old (w1.heap.size+3) wS:=⟨by omega⟩;have hcl:=fun W(hxx:Ext wS W)=>za8 (w:=W) (c:=n) HR3.out.ints (by rw[zqX.out];omega)
             rw[zqX.out]at hcl;have HCL:=Zh hcl;clear hcl zsj lb2 zsk zsp;go_region_law (first
              |((refine QB _ rfl (.tmp 94) (.tmp 97) 25 rfl (w1.heap.size+5) 35 (.slice none 0 0) 1 24 Tryz.underlying25 Qc rfl (by decide) (by decide) lB2 ln c2 vs2 (by simp[Act.eval]) (HO3.out.ext Zi) (some ⟨W5.heap.size,0,none⟩) 1 1 [.slice B5 n d5] (by simp[Act.eval]) ((Arr.new W5 35 #[.slice B5 n d5]).ext Zi) rfl (by simp[Value.oneCell']) (by omega) (by have:=hs5.size;simp at this|-;omega) ?_);intro A6 d6 w6 zsd hg6;have hb6:=(hg6.below.block (w1.heap.size+3) (by omega)).trans (zj (Zi:Ext wS ((W5.alloc (Obj.cells #[Value.slice B5 n d5] 35)))) HLB.out);have q1:w6.cell? ⟨w1.heap.size+3,0,none⟩=some (.slice lB2 ln c2):=(by simp[World.cell?,hb6]);have q2:w6.frozen? ⟨w1.heap.size+3,0,none⟩=false:=(by simp[World.frozen?,hb6]);have q3:w1.heap.size+3<w6.heap.size:=zF hb6;clear hb6)
              |(go_simp;go_at_call 142;refine(HCL.out _ Zi).mono ?_;rintro e W5 ⟨B5,d5,rfl,hO5,hs5⟩;rw[zqX.out]))
             all_goals (
              obtain⟨hX6,hM6⟩:=SMem.took HM3.out HX3.out (Zi:Ext wS W5) hO5 HM3.out.sz zqX.out zq6.out zsd hg6 hT2.out;clear q1 q2 q3 zsd hg6 hO5 hs5 HCL HO3 HLB lb3 lf3 xb3;generalize w6.setCell ⟨w1.heap.size+3,0,none⟩ (.slice A6 (ln+1) d6)=w7 at hX6 hM6|-
              have HX6:=Zh hX6;have HM6:=Zh hM6;clear hX6 hM6;go_wp2_with fail
              exact⟨⟨x+1,j+1,rfl,Zh (by have:=HXJ.out;omega),by omega,by omega,.inl (by omega),HX6.out,A6,d6,_,HM6.out⟩,by simp[intOf]<;>omega⟩))
          |(rcases zue with rfl|⟨rfl,hl0⟩
            ·go_wp2_with fail
             generalize wr.setCell ⟨w1.heap.size+1,k,none⟩ (.int .i64 x)=wS at HX3 HR3 HM3|-
             obtain⟨ln,zsj⟩:=Yz ((l++T j).length);have zq6:=Zh zsj;have zsk:=HM3.out.lb;rw[zsj]at zsk;have lb3:wS.cell? ⟨w1.heap.size+3,0,none⟩=some (.slice lB2 ln c2):=by simp[World.cell?,zsk]
             have lf3:wS.frozen? ⟨w1.heap.size+3,0,none⟩=false:=by simp[World.frozen?,zsk]
             have zsp:=HM3.out.ls.own;rw[zsj]at zsp;have HO3:=Zh zsp;have HLB:=Zh zsk;have hle:ln+1<=1073741824:=by
              have:=HLN.out;rw[hT2.out,<-append_assoc,length_append,zsj]at this;simpa using this
             have xb3:wS.cell? ⟨w1.heap.size+2,0,none⟩=some (.slice (some ⟨w1.heap.size+1,0,none⟩) n n):=by simp[World.cell?,HM3.out.xb]
             have bw3:=HM3.out.sz;have oS3:Old (w1.heap.size+3) wS:=⟨by omega⟩;have hcl:=fun W(hxx:Ext wS W)=>za8 (w:=W) (c:=n) HR3.out.ints (by rw[zqX.out];omega)
             rw[zqX.out]at hcl;have HCL:=Zh hcl;clear hcl zsj lb2 zsk zsp;go_region_law (first
              |((refine QB _ rfl (.tmp 94) (.tmp 97) 25 rfl (w1.heap.size+5) 35 (.slice none 0 0) 1 24 Tryz.underlying25 Qc rfl (by decide) (by decide) lB2 ln c2 vs2 (by simp[Act.eval]) (HO3.out.ext Zi) (some ⟨W5.heap.size,0,none⟩) 1 1 [.slice B5 n d5] (by simp[Act.eval]) ((Arr.new W5 35 #[.slice B5 n d5]).ext Zi) rfl (by simp[Value.oneCell']) (by omega) (by have:=hs5.size;simp at this|-;omega) ?_);intro A6 d6 w6 zsd hg6;have hb6:=(hg6.below.block (w1.heap.size+3) (by omega)).trans (zj (Zi:Ext wS ((W5.alloc (Obj.cells #[Value.slice B5 n d5] 35)))) HLB.out);have q1:w6.cell? ⟨w1.heap.size+3,0,none⟩=some (.slice lB2 ln c2):=(by simp[World.cell?,hb6]);have q2:w6.frozen? ⟨w1.heap.size+3,0,none⟩=false:=(by simp[World.frozen?,hb6]);have q3:w1.heap.size+3<w6.heap.size:=zF hb6;clear hb6)
              |(go_simp;go_at_call 142;refine(HCL.out _ Zi).mono ?_;rintro e W5 ⟨B5,d5,rfl,hO5,hs5⟩;rw[zqX.out]))
             all_goals (
              obtain⟨hX6,hM6⟩:=SMem.took HM3.out HX3.out (Zi:Ext wS W5) hO5 HM3.out.sz zqX.out zq6.out zsd hg6 hT2.out;clear q1 q2 q3 zsd hg6 hO5 hs5 HCL HO3 HLB lb3 lf3 xb3;generalize w6.setCell ⟨w1.heap.size+3,0,none⟩ (.slice A6 (ln+1) d6)=w7 at hX6 hM6|-
              have HX6:=Zh hX6;have HM6:=Zh hM6;clear hX6 hM6;go_wp2_with fail
              exact⟨⟨x+1,j+1,rfl,Zh (by have:=HXJ.out;omega),by omega,by omega,.inl (by omega),HX6.out,A6,d6,_,HM6.out⟩,by simp[intOf]<;>omega⟩)
            ·go_wp2_with fail
             generalize wr.setCell ⟨w1.heap.size+1,k,none⟩ (.int .i64 x)=wS at HX3 HR3 HM3|-
             obtain⟨ln,zsj⟩:=Yz ((l++T j).length);have zq6:=Zh zsj;have zsk:=HM3.out.lb;rw[zsj]at zsk;have lb3:wS.cell? ⟨w1.heap.size+3,0,none⟩=some (.slice lB2 ln c2):=by simp[World.cell?,zsk]
             have lf3:wS.frozen? ⟨w1.heap.size+3,0,none⟩=false:=by simp[World.frozen?,zsk]
             have zsp:=HM3.out.ls.own;rw[zsj]at zsp;have HO3:=Zh zsp;have HLB:=Zh zsk;have hle:ln+1<=1073741824:=by
              have:=HLN.out;rw[hT2.out,<-append_assoc,length_append,zsj]at this;simpa using this
             have xb3:wS.cell? ⟨w1.heap.size+2,0,none⟩=some (.slice (some ⟨w1.heap.size+1,0,none⟩) n n):=by simp[World.cell?,HM3.out.xb]
             have bw3:=HM3.out.sz;have oS3:Old (w1.heap.size+3) wS:=⟨by omega⟩;have hcl:=fun W(hxx:Ext wS W)=>za8 (w:=W) (c:=n) HR3.out.ints (by rw[zqX.out];omega)
             rw[zqX.out]at hcl;have HCL:=Zh hcl;clear hcl zsj lb2 zsk zsp;go_region_law (first
              |((refine QB _ rfl (.tmp 94) (.tmp 97) 25 rfl (w1.heap.size+5) 35 (.slice none 0 0) 1 24 Tryz.underlying25 Qc rfl (by decide) (by decide) lB2 ln c2 vs2 (by simp[Act.eval]) (HO3.out.ext Zi) (some ⟨W5.heap.size,0,none⟩) 1 1 [.slice B5 n d5] (by simp[Act.eval]) ((Arr.new W5 35 #[.slice B5 n d5]).ext Zi) rfl (by simp[Value.oneCell']) (by omega) (by have:=hs5.size;simp at this|-;omega) ?_);intro A6 d6 w6 zsd hg6;have hb6:=(hg6.below.block (w1.heap.size+3) (by omega)).trans (zj (Zi:Ext wS ((W5.alloc (Obj.cells #[Value.slice B5 n d5] 35)))) HLB.out);have q1:w6.cell? ⟨w1.heap.size+3,0,none⟩=some (.slice lB2 ln c2):=(by simp[World.cell?,hb6]);have q2:w6.frozen? ⟨w1.heap.size+3,0,none⟩=false:=(by simp[World.frozen?,hb6]);have q3:w1.heap.size+3<w6.heap.size:=zF hb6;clear hb6)
              |(go_simp;go_at_call 142;refine(HCL.out _ Zi).mono ?_;rintro e W5 ⟨B5,d5,rfl,hO5,hs5⟩;rw[zqX.out]))
             all_goals (
              obtain⟨hX6,hM6⟩:=SMem.took HM3.out HX3.out (Zi:Ext wS W5) hO5 HM3.out.sz zqX.out zq6.out zsd hg6 hT2.out;clear q1 q2 q3 zsd hg6 hO5 hs5 HCL HO3 HLB lb3 lf3 xb3;generalize w6.setCell ⟨w1.heap.size+3,0,none⟩ (.slice A6 (ln+1) d6)=w7 at hX6 hM6|-
              have HX6:=Zh hX6;have HM6:=Zh hM6;clear hX6 hM6;go_wp2_with fail
              exact⟨⟨x+1,j+1,rfl,Zh (by have:=HXJ.out;omega),by omega,by omega,.inl (by omega),HX6.out,A6,d6,_,HM6.out⟩,by simp[intOf]<;>omega⟩))
        ·have hT2:Hid (T (j+1)=T j):=Zh (by rw[HNX.out];simp[htk]);have ztx:(z=true/\(x==0)=true)∨(z=true/\(x==0)=false/\exact=true/\(lf==0)=false)∨(z=false/\exact=true/\(lf==0)=false):=by
          cases z<;>cases exact<;>by_cases hx0:x=0<;>by_cases hl0:lf=0<;>simp_all [jh]
         rw[HZV.out]at ztx;simp only[Bool.false_eq_true,Bool.true_eq_false,false_and,true_and,false_or,or_false]at ztx;clear htk HNX;have zr8:∀v:Value,v= .int .i64 (x+1)->(∃(x':Int) (j:Nat),v= .int .i64 x'/\Hid (x'=lo+j)/\lo<=x'/\-p<=x'/\(x'<=hi+1∨j=0)/\XRow (wr.setCell ⟨w1.heap.size+1,k,none⟩ (.int .i64 x)) (w1.heap.size+1) n k tail/\∃lB c vs,SMem w1 (wr.setCell ⟨w1.heap.size+1,k,none⟩ (.int .i64 x)) n (some ⟨bm,om,none⟩) (some ⟨bl,ol,none⟩) mc lc eb exact lB c (l++T j) vs):=fun v hv=>⟨x+1,j+1,hv,Zh (by have:=HXJ.out;omega),by omega,by omega,.inl (by omega),HX3.out,lB2,c2,vs2,by rw[hT2.out];exact HM3.out⟩
         have zqW:=Zh zr8;clear zr8;first
          |(obtain⟨rfl,hl0⟩:=ztx
            go_wp2_with fail
            exact⟨zqW.out _ rfl,by simp[intOf]<;>omega⟩)
          |(rcases ztx with zuf|⟨zuf,rfl,hl0⟩
            ·go_wp2_with fail
             exact⟨zqW.out _ rfl,by simp[intOf]<;>omega⟩
            ·go_wp2_with fail
             exact⟨zqW.out _ rfl,by simp[intOf]<;>omega⟩)
       ·obtain⟨k',HK1⟩:∃k',Hid (k=k'+1):=⟨k-1,Zh (by omega)⟩;have zws:1<=k:=by omega
        have hkb:decide ((0:Int)<k)=true:=by simp;omega
        have hLn:LevOK D n za (k'+1) rest tail:=by rw[<-HK1.out];exact hLv
        have hL':LevOK D n za k' (((sqn:Int)-u*u) / d) (x::tail):=by
         have:=LevOK.next hN hLn (x:=x) (by rw[<-HK1.out];exact zsX) (by rw[<-HK1.out];exact zsY);rw[<-HK1.out,HRS.out]at this;exact this
        have hX3:XRow (wr.setCell ⟨w1.heap.size+1,k,none⟩ (.int .i64 x)) (w1.heap.size+1) n k' (x::tail):=by
         have h1:XRow wr (w1.heap.size+1) n (k'+1) tail:=by rw[<-HK1.out];exact hX2
         have:=h1.put (by have:=HK1.out;omega) x;rw[<-HK1.out]at this;exact this
        obtain⟨zb,HZB⟩:∃zb,Hid (zb=(z&&decide (x=0))):=⟨_,Zh rfl⟩;have hz3:zb=true->z8 (x::tail)=0:=fun h=>by
         rw[HZB.out]at h;simp at h;have:=hZ2.out h.1;simp[z8,h.2]at this|-
         exact this
        have HNX:Hid (T (j+1)=T j++Zy D L exact k' (((sqn:Int)-u*u) / d) zb (x::tail)):=Zh (by
         rw[HT1.out,<-HXJ.out,JS,if_neg hk0,HRS.out,HZB.out,show k-1=k' by have:=HK1.out;omega])
        have zsh:=ih k' (by have:=HK1.out;omega) _ zb _ _ _ _ (l++T j) _ hL' hz3 hX3 (hM2.setX k (.int .i64 x)) (by rw[append_assoc,<-HNX.out];exact hln);rw[append_assoc,<-HNX.out,show ((k':Nat):Int)=(k:Int)-1 by have:=HK1.out;omega]at zsh;unfold Jl at sb2 zsh;simp only[List.append_toArray,List.cons_append,nil_append]at zsh;have HC:=Zh zsh;have hfn:=zgq;unfold qJ at hfn;clear hub hu zsX zsY hX3 hL' hLn zsh hdx zvr zud hz3 hln hk0
        have HM2:=Zh hM2;have HX2:=Zh hX2;clear hM2 hX2;by_cases hx0:x=0
        all_goals (
         have hzb:=HZB.out;rw[HZV.out]at hzb;simp[hx0]at hzb;subst hzb)
        ·have zuf:(x==0)=true:=by simp[hx0]
         clear hx0;go_wp2_with (refine HC.out.mono ?_;rintro e W3 ⟨rfl,hX4,lB4,c4,vs4,hM4⟩)
         refine⟨⟨x+1,j+1,rfl,Zh (by have:=HXJ.out;omega),by omega,by omega,.inl (by omega),?_,lB4,c4,vs4,hM4⟩,by simp[intOf]<;>omega⟩;have:=hX4.up;rw[<-HK1.out]at this;exact this
        ·have zuf:(x==0)=false:=by simp[hx0]
         clear hx0;go_wp2_with (refine HC.out.mono ?_;rintro e W3 ⟨rfl,hX4,lB4,c4,vs4,hM4⟩)
         refine⟨⟨x+1,j+1,rfl,Zh (by have:=HXJ.out;omega),by omega,by omega,.inl (by omega),?_,lB4,c4,vs4,hM4⟩,by simp[intOf]<;>omega⟩;have:=hX4.up;rw[<-HK1.out]at this;exact this
      ·have hj:j=(hi-lo+1).toNat:=by have:=HXJ.out;omega
       have HJJ:=Zh hj;clear hj;go_wp2_with fail
       go_end0
       refine⟨rfl,hX2,lB2,c2,vs2,?_⟩;rw[HTN.out,<-HJJ.out];exact hM2)
def zdr(w:World)(v:Value)(e:Ending)(w':World):Prop:=e= .returned v/\∃n,w'=w.drewN n
theorem zds{X Y:Option Addr}{x y:List Int}(hX:Ints w0 X 2 .i64 x)(hY:Ints w0 Y 2 .i64 y)(hx1:x.length<=1099511627776)(hy1:y.length<=1099511627776)[hx:Ext w0 w]:
  Cq 13 #[.slice X x.length c,.slice Y y.length d] w (zdr w (.int .i64 (zC x y))):=by
 go_enter Tryz.func13,Tryz.ntmps13;go_wp2;go_loopw [5] (fun i wr=>∃k:Nat,k<=x.length/\k<=y.length/\i= .int .i64 k/\Hid (zC x y=zC (x.drop k) (y.drop k))/\Hid (∃n,wr=w.drewN n)) (fun i _=>x.length-(intOf i).toNat)
 case atStart=>exact⟨0,by omega,by omega,rfl,Zh rfl,Zh ⟨0,rfl⟩⟩
 case round=>
  obtain⟨k,hk1,hk2,rfl,HE,HN⟩:=hrel;have hxn:Ext w0 wr:=by obtain⟨n,hn⟩:=HN.out;rw[hn];infer_instance
  by_cases hlt:k<x.length
  ·obtain⟨b1,o1,a,rfl,ha,g1,g2⟩:=(hX.ext hxn).at_ hlt;by_cases zsI:k<y.length
   ·obtain⟨b2,o2,b,rfl,hb,g3,g4⟩:=(hY.ext hxn).at_ zsI;have ea:x.drop k=a::x.drop (k+1):=by rw[List.drop_eq_getElem_cons hlt,(Zg.1 ha).2]
    have eb:y.drop k=b::y.drop (k+1):=by rw[List.drop_eq_getElem_cons zsI,(Zg.1 hb).2]
    have HE2:Hid (zC x y=if zk a b=0 then zC (x.drop (k+1)) (y.drop (k+1)) else zk a b):=Zh (by rw[HE.out,ea,eb,zC]);clear ha hb ea eb;by_cases hab:a<b
    ·have h1:(a !=b)=true:=by simp;omega
     have h2:decide (a<b)=true:=by simpa using hab
     have HV:Hid (zC x y=-1):=Zh (by rw[HE2.out,ql hab];rfl);clear hab;go_wp2;go_quiet (fail)
     go_wp2;go_quiet (fail)
     go_wp2;go_ret;exact⟨by rw[HV.out];rfl,by obtain⟨n,hn⟩:=HN.out;exact⟨_,by rw[hn,World.drewN_drewN,World.drewN_drewN]⟩⟩
    ·by_cases hba:b<a
     ·have h1:(a !=b)=true:=by simp;omega
      have h2:decide (a<b)=false:=by simpa using hab
      have HV:Hid (zC x y=1):=Zh (by rw[HE2.out,qH hba];rfl);clear hab hba;go_wp2;go_quiet (fail)
      go_wp2;go_quiet (fail)
      go_wp2;go_ret;exact⟨by rw[HV.out];rfl,by obtain⟨n,hn⟩:=HN.out;exact⟨_,by rw[hn,World.drewN_drewN,World.drewN_drewN]⟩⟩
     ·have zuN:a=b:=by omega
      have h1:(a !=b)=false:=by simp[zuN]
      have HV:Hid (zC x y=zC (x.drop (k+1)) (y.drop (k+1))):=Zh (by rw[HE2.out,q9 zuN];rfl);clear hab hba zuN;go_wp2;go_quiet (fail)
      go_wp2;exact⟨⟨k+1,by omega,by omega,by go_num,HV,Zh (by obtain⟨n,hn⟩:=HN.out;exact⟨_,by rw[hn,World.drewN_drewN]⟩)⟩,by simp[intOf];omega⟩
   ·have HV:Hid (zC x y=1):=Zh (by
     rw[HE.out,List.drop_eq_getElem_cons hlt,show y.drop k=[] from drop_eq_nil_iff.2 (by omega)];rfl)
    clear ha;go_wp2;go_ret;exact⟨by rw[HV.out];rfl,HN.out⟩
  ·by_cases zsI:k<y.length
   ·have HV:Hid (zC x y=-1):=Zh (by
     rw[HE.out,show x.drop k=[] from drop_eq_nil_iff.2 (by omega),List.drop_eq_getElem_cons zsI];rfl)
    go_wp2;go_ret;exact⟨by rw[HV.out];rfl,HN.out⟩
   ·have HV:Hid (zC x y=0):=Zh (by
     rw[HE.out,show x.drop k=[] from drop_eq_nil_iff.2 (by omega),show y.drop k=[] from drop_eq_nil_iff.2 (by omega)];rfl)
    go_wp2;go_ret;exact⟨by rw[HV.out];rfl,HN.out⟩
theorem IntsA.at0{l:List Int}(h:IntsA w A l)(hi:0<l.length):∃b o x,A=some ⟨b,o,none⟩/\l[0]? =some x/\w.cell? ⟨b,o,none⟩=some (.int .i64 x)/\b<w.heap.size:=by
 obtain⟨te,h⟩:=h;exact h.at0 hi
def Zz(m:List (List Int))(za:Int)(exact:Bool):List (List Int):=
 if m.length=1 then Qg (ent m 0 0) za exact (zv (za / ent m 0 0).toNat)
 else Zy (zm m m.length) (zr m m.length) exact (m.length-1) (vD (zm m m.length) m.length*za) true []
theorem zdt{h:Int}(h1:1<=h)(hb:0<=za):(∀x:Int,1<=x->x<=(zv (za / h).toNat:Nat)->h*x*x<=za)/\za<h*((zv (za / h).toNat:Nat)+1:Int)*((zv (za / h).toNat:Nat)+1):=by
 obtain⟨s1,s2⟩:=Qe (za / h).toNat;obtain⟨r,hr⟩:=Xz (zv (za / h).toNat);rw[<-hr]at s1 s2|-
 have q0:=Int.ediv_nonneg hb (show 0<=h by omega);have e1:=Int.mul_ediv_add_emod za h;have e2:=Int.emod_nonneg za (show h≠0 by omega);have e3:=Int.emod_lt_of_pos za (show 0<h by omega);have s1':(r:Int)*r<=za / h:=by
  have:((r*r:Nat):Int)<=za / h:=by omega
  simpa using this
 have s2':za / h+1<=((r:Int)+1)*(r+1):=by
  have:za / h+1<=(((r+1)*(r+1):Nat):Int):=by omega
  simpa using this
 refine⟨fun x h1x hxr=>?_,?_⟩
 ·have a1:x*x<=(r:Int)*r:=Int.mul_le_mul hxr hxr (by omega) (by omega);have a2:h*(x*x)<=h*(za / h):=Int.mul_le_mul_of_nonneg_left (by omega) (by omega);rw[Int.mul_assoc];omega
 ·have a2:h*(za / h+1)<=h*(((r:Int)+1)*(r+1)):=Int.mul_le_mul_of_nonneg_left s2' (by omega);rw[Int.mul_add,Int.mul_one]at a2;rw[Int.mul_assoc];omega
theorem zgr(w w':World)(x:Value)(T:TypeId)[h:Ext (w.alloc (.cells #[x] T)) w']:w'.cell? ⟨w.heap.size,0,none⟩=some x:=by
 have h0:w'.heap[w.heap.size]? =some (.cells #[x] T (0,0)):=zj h (heap_alloc_new w _);simp[World.cell?,h0]
theorem zl0(h:MatA w0 A m)(hm:m.length=1)(hl:AllLen m 1)(h1:1<=ent m 0 0)(h2:ent m 0 0<65536)(hb:0<=za)(hr:zv (za / ent m 0 0).toNat<=1048576)[hx:Ext w0 w]:
  Cq 77 #[.slice A m.length c,.int .i64 za,.bool exact] w (Jk w (Zz m za exact)):=by
 obtain⟨hin,zta⟩:=zdt h1 hb;obtain⟨r,hre⟩:=Xz (zv (za / ent m 0 0).toNat);have HC:Hid (Zz m za exact=Qg (ent m 0 0) za exact r):=Zh (by rw[Zz,if_pos hm,hre]);rw[HC.out];rw[<-hre]at hin zta hr;obtain⟨r0,hr0⟩:∃r0,m[0]? =some r0:=⟨_,Ze (by omega)⟩;obtain⟨b,o,B,c1,rfl,e1,f1,f2,f3,f4⟩:=h.at_ hr0;have hrl:r0.length=1:=hl r0 (Zm hr0);obtain⟨b2,o2,a,rfl,ha,g1,g2⟩:=f1.at0 (by omega);have hae:ent m 0 0=a:=by unfold ent;simp[hr0,ha]
 rw[hae]at h1 h2 hin zta|-
 rw[hrl]at e1 f2;rw[hm];have k1:a*((r:Int)+1)<=65535*1048577:=Int.mul_le_mul (by omega) (by omega) (by omega) (by omega);have k0:0<=a*((r:Int)+1):=Int.mul_nonneg (by omega) (by omega);have k2:a*((r:Int)+1)*((r:Int)+1)<=65535*1048577*1048577:=Int.mul_le_mul k1 (by omega) (by omega) (by omega);have hc:=fun W=>zlO (w:=W) (exact:=exact) r h1 (by omega) hin zta (by omega) (by omega)
 have HM:=Zh hc;clear hc hin zta k1 k0 k2 hre hrl hae ha hr0 hm;have ob:Old b w0:=⟨f4⟩;have ob2:Old b2 w0:=⟨g2⟩;simp only[Nat.add_zero]at e1;have E1:=fun W(hh:Ext w0 W)=>(zi w0 (w':=W) (b:=b) (o:=o)).trans e1
 have E2:=fun W(hh:Ext w0 W)=>(zi w0 (w':=W) (b:=b2) (o:=o2)).trans g1
 have HE1:=Zh E1;have HE2:=Zh E2;clear E1 E2 e1 g1;go_enter Tryz.func77,Tryz.ntmps77;go_wp2;go_region_held3 (fun w'=>w'.cell? ⟨b,o,none⟩=some (.slice (some ⟨b2,o2,none⟩) 1 c1)/\w'.cell? ⟨b2,o2,none⟩=some (.int .i64 a)/\w'.cell? ⟨w.heap.size,0,none⟩=some (.bool exact)) (exact⟨HE1.out _ Zi,HE2.out _ Zi,zgr w _ _ 4⟩)
  ((go_at_call 137;refine(HM.out _).mono ?_;rintro e w2 ⟨A2,c2,rfl,hM2,l1,l2,hs2⟩))
 go_wp2;go_ret;exact⟨A2,c2,rfl,hM2,l1,l2,Step.of _ _⟩
theorem XRow.drew(h:XRow w sz n k tail):XRow w.drew sz n k tail:=h
theorem SMem.drew(h:SMem w1 W n mA lA mc lc eb exact lB c l vs):SMem w1 W.drew n mA lA mc lc eb exact lB c l vs where
 ext:=have:=h.ext;Zi
 fb:=h.fb
 xb:=h.xb
 lb:=h.lb
 sb:=h.sb
 ebl:=h.ebl
 ec:=h.ec
 ls:=have:=h.ext;h.ls.ext (Ext.drew W W)
 sz:=h.sz
theorem SMem.start(hn:1<=n)(heb:eb<w1.heap.size)(hec:w1.cell? ⟨eb,0,none⟩=some (.bool exact)):
  XRow (((((w1.alloc (.cells #[.slice mA (n+1) mc,.slice lA n lc] 204)).alloc (.cells (Zb #[.int .i64 0] n) 2)).alloc (.cells #[.slice (some ⟨w1.heap.size+1,0,none⟩) n n] 35)).alloc (.cells #[.slice none 0 0] 25)).alloc (.cells #[.func (.func 139) #[] #[.pointer (some ⟨w1.heap.size,0,none⟩),.pointer (some ⟨w1.heap.size+1+1,0,none⟩),.pointer (some ⟨w1.heap.size+1+1+1+1,0,none⟩),.pointer (some ⟨eb,0,none⟩),.pointer (some ⟨w1.heap.size+1+1+1,0,none⟩)]] 206)) (w1.heap.size+1) n (n-1) []/\
  SMem w1 (((((w1.alloc (.cells #[.slice mA (n+1) mc,.slice lA n lc] 204)).alloc (.cells (Zb #[.int .i64 0] n) 2)).alloc (.cells #[.slice (some ⟨w1.heap.size+1,0,none⟩) n n] 35)).alloc (.cells #[.slice none 0 0] 25)).alloc (.cells #[.func (.func 139) #[] #[.pointer (some ⟨w1.heap.size,0,none⟩),.pointer (some ⟨w1.heap.size+1+1,0,none⟩),.pointer (some ⟨w1.heap.size+1+1+1+1,0,none⟩),.pointer (some ⟨eb,0,none⟩),.pointer (some ⟨w1.heap.size+1+1+1,0,none⟩)]] 206)) n mA lA mc lc eb exact none 0 [] []:=by
 generalize e1:w1.alloc (.cells #[.slice mA (n+1) mc,.slice lA n lc] 204)=W1;generalize e2:W1.alloc (.cells (Zb #[.int .i64 0] n) 2)=W2;generalize e3:W2.alloc (.cells #[.slice (some ⟨w1.heap.size+1,0,none⟩) n n] 35)=W3;generalize e4:W3.alloc (.cells #[.slice none 0 0] 25)=W4;generalize e5:W4.alloc (.cells #[.func (.func 139) #[] #[.pointer (some ⟨w1.heap.size,0,none⟩),.pointer (some ⟨w1.heap.size+1+1,0,none⟩),.pointer (some ⟨w1.heap.size+1+1+1+1,0,none⟩),.pointer (some ⟨eb,0,none⟩),.pointer (some ⟨w1.heap.size+1+1+1,0,none⟩)]] 206)=W5
 have s1:W1.heap.size=w1.heap.size+1:=by rw[<-e1,World.size_alloc]
 have s2:W2.heap.size=w1.heap.size+2:=by rw[<-e2,World.size_alloc,s1]
 have s3:W3.heap.size=w1.heap.size+3:=by rw[<-e3,World.size_alloc,s2]
 have s4:W4.heap.size=w1.heap.size+4:=by rw[<-e4,World.size_alloc,s3]
 have s5:W5.heap.size=w1.heap.size+5:=by rw[<-e5,World.size_alloc,s4]
 have x1:Ext w1 W1:=by rw[<-e1];infer_instance
 have x2:Ext W1 W2:=by rw[<-e2];infer_instance
 have x3:Ext W2 W3:=by rw[<-e3];infer_instance
 have x4:Ext W3 W4:=by rw[<-e4];infer_instance
 have x5:Ext W4 W5:=by rw[<-e5];infer_instance
 have h1:=heap_alloc_new w1 (.cells #[.slice mA (n+1) mc,.slice lA n lc] 204);have h2:=heap_alloc_new W1 (.cells (Zb #[.int .i64 0] n) 2);have h3:=heap_alloc_new W2 (.cells #[.slice (some ⟨w1.heap.size+1,0,none⟩) n n] 35);have h4:=heap_alloc_new W3 (.cells #[.slice none 0 0] 25);have h5:=heap_alloc_new W4 (.cells #[.func (.func 139) #[] #[.pointer (some ⟨w1.heap.size,0,none⟩),.pointer (some ⟨w1.heap.size+1+1,0,none⟩),.pointer (some ⟨w1.heap.size+1+1+1+1,0,none⟩),.pointer (some ⟨eb,0,none⟩),.pointer (some ⟨w1.heap.size+1+1+1,0,none⟩)]] 206)
 rw[e1]at h1;rw[e2,s1]at h2;rw[e3,s2]at h3;rw[e4,s3]at h4;rw[e5,s4]at h5;have x35:=x4.trans x5;have x25:=x3.trans x35;have x15:=x2.trans x25;refine⟨⟨List.replicate n 0,?_,by simp,by simp;omega⟩,x1.trans x15,zj x15 h1,zj x35 h3,zj x5 h4,h5,heb,hec,LOwn.nil _ _,by omega⟩;have:(Zb #[.int .i64 0] n)=((List.replicate n (0:Int)).map (Value.int .i64)).toArray:=by
  apply Array.ext';rw[jw];simp
 rw[this]at h2;exact zj x25 h2
theorem zl1(h:MatA w0 A m)(h2:2<=m.length)(hf:FormOK m)(h64:zam m)(hb0:0<=za)(hb1:za<1073741824)(zr7:(Zy (zm m m.length) (zr m m.length) exact (m.length-1) (vD (zm m m.length) m.length*za) true []).length<=1073741824)[hx:Ext w0 w]:
  Cq 77 #[.slice A m.length c,.int .i64 za,.bool exact] w (Jk w (Zy (zm m m.length) (zr m m.length) exact (m.length-1) (vD (zm m m.length) m.length*za) true [])):=by
 have hN:=hf.num za hb0 hb1;have h8:=hN.n8;have hnf:=fun W(hh:Ext w0 W)=>zlT (w:=W) (c:=c) h hf.len1 h8 hf.all hf.fits hf.elim h64
 have hDl:(zm m m.length).length=m.length+1:=za0 m _;have hLl:(zr m m.length).length=m.length:=by simp[zr]
 obtain⟨D,hD⟩:=Xz (zm m m.length);obtain⟨L,hL⟩:=Xz (zr m m.length);rw[<-hD,<-hL]at hnf hN zr7|-
 rw[<-hD]at hDl;rw[<-hL]at hLl;unfold zgo at hnf;rw[hDl,hLl]at hnf;obtain⟨n,hn⟩:=Xz m.length;rw[<-hn]at hnf hN hDl hLl h2 h8 zr7|-
 obtain⟨dn,hdn⟩:=Xz (vD D n);have e1:=hN.d1 n (by omega);have e2:=hN.d2 n (by omega);rw[<-hdn]at e1 e2 zr7|-
 have hm1:0<=dn*za:=Int.mul_nonneg (by omega) (by omega);have hm2:dn*za<=65535*1073741823:=Int.mul_le_mul (by omega) (by omega) (by omega) (by omega);have zty:LevOK D n za (n-1) (dn*za) []:=⟨by omega,hm1,by rw[show n-1+1=n by omega,hdn];exact Int.le_refl _,by simp,by simp[z8]⟩;obtain⟨rest,zug⟩:=Yz (dn*za);rw[zug]at hm1 hm2 zty zr7|-
 have hdi:D[n]? =some dn:=by rw[hdn];unfold vD;simp[show n<D.length by omega]
 have HNF:=Zh hnf;have HDL:=Zh hDl;have zrI:=Zh zty;have zq5:=Zh zr7;have HDI:=Zh hdi;have hne:((n:Int)==1)=false:=by simp;omega
 have hmk:=qf (P:=Tryz.prog) Tryz.underlying35 Qb (by omega) (n:Int) (by omega) (by omega);clear hnf hD hL hn hDl hLl zty hdi hdn zr7 hf h64;go_enter Tryz.func77,Tryz.ntmps77;go_wp2_with (go_at_call 138;refine(HNF.out _ Zi).mono ?_;clear HNF;rintro e w1 ⟨mA,mc,lA,lc,rfl,hD,hL,d1,d2,d3,d4,hs1⟩)
 have heb:w.heap.size<w1.heap.size:=by have:=hs1.size;simp at this;omega
 have hec:w1.cell? ⟨w.heap.size,0,none⟩=some (.bool exact):=zgr w _ _ 4;obtain⟨hX,hM⟩:=SMem.start (mA:=mA) (lA:=lA) (mc:=mc) (lc:=lc) (n:=n) (by omega) heb hec;generalize (((((w1.alloc (.cells #[.slice mA (n+1) mc,.slice lA n lc] 204)).alloc (.cells (Zb #[.int .i64 0] n) 2)).alloc (.cells #[.slice (some ⟨w1.heap.size+1,0,none⟩) n n] 35)).alloc (.cells #[.slice none 0 0] 25)).alloc (.cells #[.func (.func 139) #[] #[.pointer (some ⟨w1.heap.size,0,none⟩),.pointer (some ⟨w1.heap.size+1+1,0,none⟩),.pointer (some ⟨w1.heap.size+1+1+1+1,0,none⟩),.pointer (some ⟨w.heap.size,0,none⟩),.pointer (some ⟨w1.heap.size+1+1+1,0,none⟩)]] 206))=W at hX hM|-
 obtain⟨f1,f2,f3,f4,f5⟩:=zQ hM.fb;have sb1:W.cell? ⟨w1.heap.size+1+1+1+1,0,none⟩=some (.func (.func 139) #[] #[.pointer (some ⟨w1.heap.size,0,none⟩),.pointer (some ⟨w1.heap.size+1+1,0,none⟩),.pointer (some ⟨w1.heap.size+1+1+1+1,0,none⟩),.pointer (some ⟨w.heap.size,0,none⟩),.pointer (some ⟨w1.heap.size+1+1+1,0,none⟩)]):=by
  have:W.cell? ⟨w1.heap.size+4,0,none⟩=some (.func (.func 139) #[] (Jl w1.heap.size w.heap.size)):=by simp[World.cell?,hM.sb]
  exact this
 obtain⟨bm,om,-,rfl,-⟩:=hD.at_ (i:=n) (by have:=HDL.out;omega);obtain⟨m3,m4⟩:=jV (hD.ext hM.ext) HDI.out;have zsh:=fun(W':World)hX' hM'=>zlZ (exact:=exact) (eb:=w.heap.size) hD hL d1 d2 d3 d4 hN (n-1) rest true [] W' none 0 [] [] zrI.out (fun _=>rfl) hX' hM' (by rw[nil_append];exact zq5.out)
 rw[show ((n-1:Nat):Int)=(n:Int)-1 by omega,nil_append]at zsh;unfold Jl at zsh;simp only[List.append_toArray,List.cons_append,nil_append]at zsh;have HC:=Zh zsh;have hfn:=zgq;unfold qJ at hfn;have HX:=Zh hX;have HM:=Zh hM;have w1e:IntKind.i64.wrap ((n:Int)-1)=(n:Int)-1:=Iw;have w2e:IntKind.i64.wrap rest=rest:=Iw;clear zsh hX hM;go_region_with (refine(HC.out _ HX.out.drew HM.out.drew).mono ?_;rintro e W3 ⟨rfl,hX4,lB4,c4,vs4,hM4⟩)
 all_goals (
  have lb4:W3.cell? ⟨w1.heap.size+1+1+1,0,none⟩=some (.slice lB4 (Zy D L exact (n-1) rest true []).length c4):=by
   have:W3.cell? ⟨w1.heap.size+3,0,none⟩=some (.slice lB4 (Zy D L exact (n-1) rest true []).length c4):=by simp[World.cell?,hM4.lb]
   exact this
  have zvs:w1.heap.size+1+1+1<W3.heap.size:=by have:=hM4.sz;omega
  have zr8:Jk w (Zy D L exact (n-1) rest true []) (.returned (.slice lB4 (Zy D L exact (n-1) rest true []).length c4)) W3:=by
   have hc:=hM4.ls.own.cap;have hxw:Ext w w1:=Zi;exact⟨lB4,c4,rfl,hM4.ls.mat,hc.1,hc.2,(hxw.trans hM4.ext).toStep⟩
  have HF:=Zh zr8;clear zr8 hM4 hX4;generalize (Zy D L exact (n-1) rest true []).length=ln at lb4 HF|-
  go_wp2;go_ret;exact HF.out)
theorem zl2(h:MatA w0 A m)(hf:FormOK m)(h64:zam m)(hb0:0<=za)(hb1:1<m.length->za<1073741824)(hr:m.length=1->zv (za / ent m 0 0).toNat<=1048576)(zr7:(Zz m za exact).length<=1073741824)[hx:Ext w0 w]:
  Cq 77 #[.slice A m.length c,.int .i64 za,.bool exact] w (Jk w (Zz m za exact)):=by
 have h1:=hf.len1;by_cases hm:m.length=1
 ·have hN:=hf.num 0 (by omega) (by omega);have d1:=hN.d1 1 (by omega);have d2:=hN.d2 1 (by omega);have e:vD (zm m m.length) 1=ent m 0 0:=by rw[hm];simp[vD,zm,zo]
  rw[e]at d1 d2;exact zl0 h hm (by have:=hf.all;rwa [hm]at this) d1 d2 hb0 (hr hm)
 ·have e:Zz m za exact=Zy (zm m m.length) (zr m m.length) exact (m.length-1) (vD (zm m m.length) m.length*za) true []:=by rw[Zz,if_neg hm]
  rw[e]at zr7|-
  exact zl1 h (by omega) hf h64 hb0 (hb1 (by omega)) zr7
def qo(st:List Int):Int:=st.getD (st.length-1) 0
theorem zl3(h:Ints w0 A 3 .i64 st)(h1:1<=st.length)(h2:st.length<=1099511627776)(l1:1<=qo st)(l2:qo st<=1099511627776)[hx:Ext w0 w]:
  Cq 75 #[.slice A st.length c] w (Zv w (.int .i64 ((qo st-1) / 2))):=by
 obtain⟨b,o,x,rfl,hx',g1,g2⟩:=(h.ext hx).at_ (i:=st.length-1) (by omega);have he:qo st=x:=by unfold qo;simp[hx']
 rw[he]at l1 l2|-
 obtain⟨n,hn⟩:∃n,st.length=n+1:=⟨st.length-1,by omega⟩;rw[hn]at h2 g1|-
 simp only[Nat.add_sub_cancel]at g1;clear hn he hx' h h1;go_enter Tryz.func75,Tryz.ntmps75;go_wp2;go_ret;exact⟨rfl,rfl⟩
structure EnumOK(m:List (List Int))(za:Int)(exact:Bool):Prop where
 form:FormOK m
 s64:zam m
 red:RedM m
 b0:0<=za
 b1:1<m.length->za<1073741824
 one:m.length=1->zv (za / ent m 0 0).toNat<=1048576
 len:(Zz m za exact).length<=1073741824
 vec:∀x∈Zz m za exact,VecOK m x
 nd:((Zz m za exact).map zS).Nodup
def zl4(w:World)(m ls:List (List Int))(total:Int)(e:Ending)(w':World):Prop:=∃A c L,e= .returned (.tuple #[.slice A (List.length L) c,.int .i64 total,.int .i64 0])/\Mat64 w' A L/\L.length<=c/\c<=9223372036854775807/\L.Perm (ls.map zS)/\L.Pairwise (fun x y=>qM (zg m x) (zg m y) x y<0)/\Step w w'
theorem zb8(l:List Int)(k:Nat)(x:Int)(h:l[k]? =some x):(l.take (k+1)).sum=(l.take k).sum+x:=by
 rw[List.take_add_one,h];simp
theorem zl5(l:List Int)(hb:∀x∈l,0<=x/\x<=1099511627776)(k:Nat):0<=(l.take k).sum/\(l.take k).sum<=k*1099511627776:=by
 induction k with
 |zero=>simp
 |succ k ih=>
  cases h:l[k]? with
  |none=>rw[List.take_add_one,h];simp;omega
  |some x=>
   rw[zb8 l k x h];have:=hb x (Zm h);omega
theorem zgs{budget:Int}(h:MatA w0 A m)(hc:m.length<=c)(hc2:c<=9223372036854775807)(hok:EnumOK m za false)(hs:qL m za budget=(st,0))(h1:1<=st.length)(h2:st.length<=8)(l1:1<=qo st)(hb:∀x∈st,0<=x/\x<=1099511627776)(hsm:(qo st-1) / 2<=4096)[hx:Ext w0 w]:
  Cq 34 #[.slice A m.length c,.int .i64 za,.int .i64 budget] w (zl4 w m (Zz m za false) st.sum):=by
 have hn8:=hok.red.n8;have l2:qo st<=1099511627776:=by omega
 have hst:=fun W(hh:Ext w0 W)=>zlj (w:=W) (za:=za) (budget:=budget) h (by omega) hc hc2 (fun _=>hok.form)
 rw[hs]at hst;have HST:=Zh hst;have hpa:=fun W A' c'(hI:Ints W A' 3 .i64 st)=>zl3 (w:=W) (c:=c') hI h1 (by omega) l1 l2
 have HP:=Zh hpa;obtain⟨q,hq⟩:=Yz ((qo st-1) / 2);rw[hq]at HP hsm;have hb':decide (4096<q)=false:=by simp;omega
 have hco:=fun W(hh:Ext w0 W)=>zl2 (w:=W) (c:=c) h hok.form hok.s64 hok.b0 hok.b1 hok.one hok.len
 have HCO:=Zh hco;have hso:=fun W X d(hh:Ext w0 W)(hX:Mat64 W X (Zz m za false))=>zlL (w0:=W) (w:=W) (c:=c) (d:=d) (h.ext hh) hc hc2 hX hok.len hok.red hok.vec hok.nd
 have HSO:=Zh hso;obtain⟨ls,hls⟩:=Yz (Zz m za false);rw[hls]at HCO HSO|-
 have HB:=Zh hb;clear hst hpa hs hq hco hso hls hok hb;go_enter Tryz.func34,Tryz.ntmps34;go_wp2_with (first
  |(go_at_call 74;refine(HST.out _ Zi).mono ?_;rintro e w1 ⟨A1,c1,rfl,hI,k1,k2,hs1⟩)
  |(go_at_call 75;refine(HP.out _ _ _ hI).mono ?_;rintro e w2 ⟨rfl,rfl⟩))
 go_loop [11,13,31] (fun s _ i=>∃k:Nat,k<=st.length/\i= .int .i64 k/\s= .int .i64 (st.take k).sum) (fun _ _ i=>st.length-(intOf i).toNat)
 case atStart=>exact⟨0,by omega,rfl,by simp⟩
 case round=>
  obtain⟨k,hk,rfl,rfl⟩:=hrel;have hbd:=zl5 st HB.out k;by_cases hlt:k<st.length
  ·obtain⟨b,o,x,rfl,hx',g1,g2⟩:=hI.at_ hlt;have hxb:=HB.out x (Zm hx');have HS:=Zh (zb8 st k x hx');obtain⟨s,hs⟩:=Xz ((st.take k).sum);rw[<-hs]at hbd HS|-
   have b1:s<=8*1099511627776:=by omega
   obtain⟨b0,-⟩:=hbd;obtain⟨x0,x1⟩:=hxb;clear hs hx';go_wp2;exact⟨⟨k+1,by omega,by go_num,by rw[HS.out]⟩,by simp[intOf];omega⟩
  ·have htk:st.take k=st:=List.take_of_length_le (by omega);rw[htk]at hbd|-
   obtain⟨s,hs⟩:=Xz st.sum;have hsb:0<=s/\s<=8*1099511627776:=by rw[hs];omega
   rw[<-hs];have HS:=Zh hs;clear hs htk hbd;go_wp2_with (first
    |(go_at_call 77;refine(HCO.out _ Zi).mono ?_;rintro e w3 ⟨A3,c3,rfl,hM3,k3,k4,hs3⟩)
    |(go_at_call 76;refine(HSO.out _ _ _ Zi hM3).mono ?_;rintro e w4 ⟨A4,c4,L,rfl,hM4,k5,k6,hp,hw,hs4⟩))
   go_ret3
   exact⟨A4,c4,L,by rw[<-HS.out];rfl,hM4,k5,k6,hp,hw,Step.of _ _⟩
def m1:List (List Int):=[[1]]
def m2:List (List Int):=[[2,1],[1,2]]
theorem zl6:zm m2 2=[1,2,3]:=by decide
theorem zl7:zr m2 2=[[1],[]]:=by decide
theorem zgt:AllLen m2 m2.length:=by unfold AllLen;decide
theorem zgu:RedM m2:=⟨by decide,zgt,by unfold zc6;decide,by decide⟩
theorem zl8(za:Int)(h0:0<=za)(h1:za<1073741824):NumOK (zm m2 2) (zr m2 2) 2 za:=by
 rw[zl6,zl7];exact⟨by decide,rfl,rfl,by decide,by decide,by decide,by decide,h0,h1⟩
theorem lt2(h:k<2):k=0∨k=1:=by omega
theorem zl9:ElimOK m2:=by
 refine⟨fun i j hi hj=>?_,fun k hk=>?_,fun k i j hi hj=>?_⟩
 ·rcases lt2 hi with rfl|rfl<;>rcases lt2 hj with rfl|rfl<;>decide
 ·have hk:k+1<2:=hk;obtain rfl:k=0:=by omega
  decide
 ·have hi:i+1<2-k:=hi;have hj:j+1<2-k:=hj;obtain rfl:k=0:=by omega
  obtain rfl:i=0:=by omega
  obtain rfl:j=0:=by omega
  unfold zc3;decide
theorem zma:zb1 m2:=by
 intro k hk j hj;have hj:j<2-k:=hj;rcases lt2 hk with rfl|rfl
 ·rcases lt2 hj with rfl|rfl<;>decide
 ·obtain rfl:j=0:=by omega
  decide
theorem zmb:FormOK m2:=⟨by decide,zgt,by unfold qT;decide,zl9,zma,zl8⟩
theorem zmc:zam m2:=by
 intro k hk;rcases lt2 hk with rfl|rfl<;>(unfold qT;decide)
theorem zgv:Zz m2 2 false=[[1,0],[-1,1],[0,1]]:=by decide
theorem zmd:qL m2 2 100=([3,7],0):=by decide
theorem zme:EnumOK m2 2 false:=by
 refine⟨zmb,zmc,zgu,by decide,by decide,by decide,by decide,?_,by decide⟩;rw[zgv];intro x hx;simp only[List.mem_cons,List.not_mem_nil,or_false]at hx;rcases hx with rfl|rfl|rfl<;>exact⟨by decide,by decide,by decide⟩
theorem zmf{T ls:List (List Int)}(hp:L.Perm (ls.map zS))(hw:L.Pairwise (fun x y=>qM (zg m x) (zg m y) x y<0))(hT:T.Pairwise (fun x y=>qM (zg m x) (zg m y) x y<0))(hpT:T.Perm (ls.map zS))(anti:∀a∈T,∀b∈T,qM (zg m a) (zg m b) a b<0->qM (zg m b) (zg m a) b a<0->a=b):L=T:=by
 have hq:=hp.trans hpT.symm;exact List.Perm.eq_of_pairwise (fun a b ha hb=>anti a (hq.mem_iff.1 ha) b hb) hw hT hq
theorem zgw(w:World)(a b c d:Int):Mat64 (((w.alloc (.cells #[.int .i64 a,.int .i64 b] 2)).alloc (.cells #[.int .i64 c,.int .i64 d] 2)).alloc (.cells #[.slice (some ⟨w.heap.size,0,none⟩) 2 2,.slice (some ⟨w.heap.size+1,0,none⟩) 2 2] 35)) (some ⟨w.heap.size+1+1,0,none⟩) [[a,b],[c,d]]:=by
 have h1:Ints (w.alloc (.cells #[.int .i64 a,.int .i64 b] 2)) (some ⟨w.heap.size,0,none⟩) 2 .i64 [a,b]:=Arr.new w 2 #[.int .i64 a,.int .i64 b];have h2:Ints ((w.alloc (.cells #[.int .i64 a,.int .i64 b] 2)).alloc (.cells #[.int .i64 c,.int .i64 d] 2)) (some ⟨w.heap.size+1,0,none⟩) 2 .i64 [c,d]:=by
  have:=Arr.new (w.alloc (.cells #[.int .i64 a,.int .i64 b] 2)) 2 #[.int .i64 c,.int .i64 d];rwa [World.size_alloc]at this
 have h3:=Arr.new ((w.alloc (.cells #[.int .i64 a,.int .i64 b] 2)).alloc (.cells #[.int .i64 c,.int .i64 d] 2)) 35 #[.slice (some ⟨w.heap.size,0,none⟩) 2 2,.slice (some ⟨w.heap.size+1,0,none⟩) 2 2];rw[World.size_alloc,World.size_alloc]at h3;refine⟨_,rfl,h3,fun i r hr=>?_⟩;match i with
 |0=>obtain rfl:[a,b]=r:=by simpa using hr
     exact⟨_,2,rfl,h1.ext Zi,by simp,by omega⟩
 |1=>obtain rfl:[c,d]=r:=by simpa using hr
     exact⟨_,2,rfl,h2.ext Zi,by simp,by omega⟩
 |i+2=>simp at hr
def ji:List (List Int):=[[0,1],[1,-1],[1,0]]
theorem zmg(hp:L.Perm ((Zz m2 2 false).map zS))(hw:L.Pairwise (fun x y=>qM (zg m2 x) (zg m2 y) x y<0)):L=ji:=by
 refine zmf hp hw (by decide) ?_ (by decide);rw[zgv];decide
end Go.Proofs.YtpcgfpmiphiacaaGreat
